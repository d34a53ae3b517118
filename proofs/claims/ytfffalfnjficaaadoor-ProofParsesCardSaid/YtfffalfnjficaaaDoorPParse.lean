/-
  WALK: proof.Parse.
-/
import Derived.Test.YtfffalfnjficaaaDoorPLine
import Derived.Test.YtfffalfnjficaaaDoorStepsEnd
namespace Go.Proofs.YtfffalfnjficaaaDoor
open Go.RowKit

def strLen (v : Value) : Nat := match v with
  | .string b => b.size
  | _ => 0
theorem strLen_eq (l : List UInt8) : strLen (.string ⟨l.toArray⟩) = l.length := by simp [strLen, ByteArray.size]
set_option maxRecDepth 100000 in
set_option maxHeartbeats 8000000 in
theorem pparse_any (s : List UInt8) (w : World) (hl : s.length ≤ 900000) (hp : PL w) :
    Calls Tryd.prog 17 #[.string ⟨s.toArray⟩] w (StepsEnd w s) := by
  obtain ⟨iT, hiT, hzT0, hzT1, hzT2⟩ := info_parts info_stepP
  have HPL := Lib.hid hp
  clear hp
  go_enter Tryd.func17, Tryd.ntmps17
  go_wp2_with fail
  go_loopw [0, 5, 6] (fun r v n wr => ∃ (ps : List (Stp × Value)) (rest : List UInt8), r = .string ⟨rest.toArray⟩ ∧ n = .int .i64 ((ps.length : Int) + 1) ∧ Hid (OwnStps wr w.heap.size (fun b => w.heap.size ≤ b) v ps) ∧ Hid (∀ e, RunP (ps.map (·.1)) (ps.length + 1) rest e → RunP [] 1 s e) ∧ rest.length + ps.length ≤ s.length ∧ Hid (Below w.heap.size w wr)) (fun r _ _ _ => strLen r)
  case atStart => exact ⟨[], s, rfl, rfl, Lib.hid (OwnStps.nil _ _ _), Lib.hid (fun e h => h), by simp, Lib.hid (Below.refl _ _)⟩
  case round =>
    obtain ⟨ps, rest, rfl, rfl, HOS, HGO, hsz, HB⟩ := hrel
    have HPW : Hid (PL wr) := Lib.hid (HPL.out.below HB.out)
    obtain ⟨Ao, co, hA, -, -, -⟩ := owns_rd HOS.out.1
    subst hA
    by_cases hR : rest = []
    · subst hR
      have HPO : Hid (RunP [] 1 s (.ok (ps.map (·.1)))) := Lib.hid (HGO.out _ (.done _ _))
      go_wp2_with fail
      go_ret3
      exact ⟨HB.out, .inl ⟨_, _, HPO.out, rfl, HOS.out.stps⟩⟩
    · have hRl : 0 < rest.length := List.length_pos_iff.2 hR
      have HRN := Lib.hid hR
      have q0 : (!rest.isEmpty) = true := by cases rest with | nil => exact absurd rfl hR | cons _ _ => rfl
      clear hR
      go_wp2_with fail
      refine (cut_any 10 rest wr (by omega) HPW.out.ml).mono ?_
      rintro e w3 ⟨rfl, nd, rfl⟩
      have HBD : Hid (Below wr.heap.size wr (wr.drewN nd)) := Lib.hid (bdrew (Below.refl _ _) nd)
      rcases cut_split 10 rest with ⟨hno, hcut⟩ | ⟨a, b, hab, hna, hcut⟩
      · have HBAD : Hid (RunP [] 1 s (.bad (ps.length + 1))) := Lib.hid (HGO.out _ (.cut HRN.out hno))
        rw [hcut]
        clear hcut hno
        generalize wr.drewN nd = w3 at *
        go_wp2_with fail
        refine (parseLine_any rest w3 (by omega) (HPW.out.below HBD.out)).mono ?_
        rintro e w6 ⟨hb6, hret⟩
        have HB6 : Hid (Below w.heap.size w w6) := Lib.hid ((HB.out.trans (HBD.out.mono HB.out.size)).trans (hb6.mono (Nat.le_trans HB.out.size HBD.out.size)))
        clear hb6
        rcases hret with ⟨-, rfl⟩ | ⟨x, A6, c6, -, rfl, -, -⟩
        · unfold zSt
          go_wp2_with fail
          go_ret3
          exact ⟨HB6.out.alloc HB6.out.size _, .inr ⟨_, HBAD.out, rfl⟩⟩
        · rw [show Stp.val x (.slice A6 x.lits.length c6) = .agg #[.int .i64 x.kind, .int .i64 x.index, .slice A6 x.lits.length c6, .int .i64 x.p, .int .i64 x.q, .int .i64 x.var] from rfl]
          go_wp2_with fail
          go_ret3
          exact ⟨HB6.out.alloc HB6.out.size _, .inr ⟨_, HBAD.out, rfl⟩⟩
      · rw [hcut]
        clear hcut
        generalize wr.drewN nd = w3 at *
        have hal : a.length + b.length + 1 = rest.length := by rw [hab]; simp; omega
        go_wp2_with fail
        refine (parseLine_any a w3 (by omega) (HPW.out.below HBD.out)).mono ?_
        rintro e w6 ⟨hb6, hret⟩
        have HB36 := Lib.hid hb6
        have HBR : Hid (Below wr.heap.size wr w6) := Lib.hid (HBD.out.trans (hb6.mono HBD.out.size))
        have HBN : Hid (Below w.heap.size w w6) := Lib.hid (HB.out.trans (HBR.out.mono HB.out.size))
        clear hb6
        rcases hret with ⟨hno, rfl⟩ | ⟨x, A6, c6, hso, rfl, hi6, hok6⟩
        · have HBAD : Hid (RunP [] 1 s (.bad (ps.length + 1))) := Lib.hid (HGO.out _ (.wrong hab hna hno))
          clear hab hna hno
          unfold zSt
          go_wp2_with fail
          go_ret3
          exact ⟨HBN.out.alloc HBN.out.size _, .inr ⟨_, HBAD.out, rfl⟩⟩
        · have HOS6 := Lib.hid (HOS.out.keep HBR.out)
          have HI6 : Hid (IntsO w6 (fun b => w.heap.size ≤ b ∧ some b ≠ (Value.slice Ao ps.length co).ownBlock) (.slice A6 x.lits.length c6) x.lits) := Lib.hid (hi6.mono fun b _ hb => ⟨Nat.le_trans HB.out.size (Nat.le_trans HBD.out.size hb), fun e => by have := (HOS.out.1.lt b e.symm).2; have := HBD.out.size; omega⟩)
          have HOK := Lib.hid hok6
          have HGO2 : Hid (∀ e, RunP (ps.map (·.1) ++ [x]) (ps.length + 1 + 1) b e → RunP [] 1 s e) := Lib.hid (fun e h => HGO.out e (.next hab hna hso h))
          clear hab hna hi6 hok6 hso
          rw [show Stp.val x (.slice A6 x.lits.length c6) = .agg #[.int .i64 x.kind, .int .i64 x.index, .slice A6 x.lits.length c6, .int .i64 x.p, .int .i64 x.q, .int .i64 x.var] from rfl]
          have HO : Hid (∀ u ∈ ([.int .i64 x.kind, .int .i64 x.index, .slice A6 x.lits.length c6, .int .i64 x.p, .int .i64 x.q, .int .i64 x.var] : List Value), u.oneCell' = true) := by
            refine Lib.hid ?_
            intro u hu; simp at hu; rcases hu with rfl | rfl | rfl | rfl | rfl | rfl <;> rfl
          have H63 : Hid (ps.length + 1 ≤ maxLen) := by refine Lib.hid ?_; unfold maxLen; omega
          have HBY : Hid ((ps.length + 1) * 64 ≤ 140737488355328) := by refine Lib.hid ?_; omega
          have HBA : Hid (w.heap.size ≤ ((w6.alloc (.cells #[.int .i64 x.kind, .int .i64 x.index, .slice A6 x.lits.length c6, .int .i64 x.p, .int .i64 x.q, .int .i64 x.var] 81)).alloc (.cells #[.int .i64 x.kind, .int .i64 x.index, .slice A6 x.lits.length c6, .int .i64 x.p, .int .i64 x.q, .int .i64 x.var] 81)).heap.size) := by refine Lib.hid ?_; have := HBN.out.size; simp; omega
          have hb6a : Below w6.heap.size w6 (w6.alloc (.cells #[.int .i64 x.kind, .int .i64 x.index, .slice A6 x.lits.length c6, .int .i64 x.p, .int .i64 x.q, .int .i64 x.var] 81)) := (Below.refl _ _).alloc (Nat.le_refl _) _
          have HOS6a := Lib.hid (HOS6.out.keep hb6a)
          have HI6a := Lib.hid (HI6.out.keep hb6a)
          have HBNa := Lib.hid (HBN.out.trans (hb6a.mono HBN.out.size))
          have hca := cells_at (w6.alloc (.cells #[.int .i64 x.kind, .int .i64 x.index, .slice A6 x.lits.length c6, .int .i64 x.p, .int .i64 x.q, .int .i64 x.var] 81)) 81 [.int .i64 x.kind, .int .i64 x.index, .slice A6 x.lits.length c6, .int .i64 x.p, .int .i64 x.q, .int .i64 x.var] rfl
          rw [show (w6.alloc (.cells #[.int .i64 x.kind, .int .i64 x.index, .slice A6 x.lits.length c6, .int .i64 x.p, .int .i64 x.q, .int .i64 x.var] 81)).heap.size = w6.heap.size + 1 by simp] at hca
          have HCA := Lib.hid hca
          clear hca hb6a
          go_wp2_with (at_builtin; refine wpList_append_own_at _ rfl _ _ 43 rfl w.heap.size 81 iT _ 6 64 Tryd.underlying43 hiT hzT0 hzT1 hzT2 rfl (by decide) _ _ _ rfl (HOS6a.out.1.alloc _) ⟨w6.heap.size + 1, 0, none⟩ 1 1 [.int .i64 x.kind, .int .i64 x.index, .slice A6 x.lits.length c6, .int .i64 x.p, .int .i64 x.q, .int .i64 x.var] rfl rfl HCA.out HO.out H63.out HBY.out HBA.out ?_)
          intro v7 w7 hown hgrow _ hat
          have HOS7 := Lib.hid (HOS6a.out.push (s := x) (lv := .slice A6 x.lits.length c6) HI6a.out HOK.out hown hgrow (by simpa using hat))
          have HB7 : Hid (Below w.heap.size w w7) := Lib.hid ((HBNa.out.alloc HBNa.out.size _).grown hgrow (by have := HBNa.out.size; simp at *; omega) fun k e => by have := HOS6a.out.1.lt k e; omega)
          obtain ⟨A7, c7, e7, -, -, -⟩ := owns_rd hown
          subst e7
          clear hown hgrow hat HO H63 HBY HBA
          go_wp2_with fail
          go_roundw
          case rel => exact ⟨ps ++ [(x, .slice A6 x.lits.length c6)], b, rfl, by simp, by simpa using HOS7, by simpa using HGO2, by simp; omega, HB7⟩
          case measure => rw [strLen_eq, strLen_eq]; omega
end Go.Proofs.YtfffalfnjficaaaDoor
