/-
  WALK: trace.Parse.
-/
import Derived.Test.YtmnjmegejaejlaaDoorTT27
namespace Go.Proofs.YtmnjmegejaejlaaDoor
open Go.RowKit

def zTrc : Value := .agg #[.slice none 0 0, .slice none 0 0, .slice none 0 0, .slice none 0 0, .slice none 0 0, .slice none 0 0, .slice none 0 0]
/-- What the reading of a text of a trace answers. -/
def TrcEnd (w : World) (s : List UInt8) (e : Ending) (w' : World) : Prop :=
  Below w.heap.size w w' ∧ ((∃ t vv, RunT trc0 0 1 s (.ok t) ∧ e = .returned (.tuple #[vv, .int .i64 0, .int .i64 0]) ∧ IsTrc w' vv t) ∨ (∃ k : Nat, RunT trc0 0 1 s (.bad k) ∧ e = .returned (.tuple #[zTrc, .int .i64 11, .int .i64 (k : Int)])))
theorem TrS.far {w w' : World} {base b g : Nat} {v : Nat → Value} {t : Trc} {ds : List (Value × Value)} (h : TrS w base b v t ds) (hg : w.grownBy w' (some g)) (hb : g < b) : TrS w' base b v t ds := by
  have hlt := h.lt
  exact ⟨h.blk.grown hg (by intro e; injection e with e; omega), h.lt, Nat.le_trans h.le hg.size, fun i hi => (h.row i hi).kept hg (own_ne (h.row i hi) (by omega)), h.ap, h.dl,
    fun k e d a c => ⟨(h.ev k e d a c).1.grown hg (fun q hq e => by injection e with e; have := hq.1; omega), (h.ev k e d a c).2.grown hg (fun q hq e => by injection e with e; have := hq.1; omega)⟩, h.ok⟩
theorem rowN_add (t : Trc) (it : Item) (i : Nat) : rowN (t.add it) i ≤ rowN t i + 1 := by
  have hi : i = 0 ∨ i = 1 ∨ i = 2 ∨ i = 3 ∨ i = 4 ∨ i = 5 ∨ 6 ≤ i := by omega
  rcases hi with rfl | rfl | rfl | rfl | rfl | rfl | hi
  · cases it <;> simp [rowN, Trc.add]
  · cases it <;> simp [rowN, Trc.add]
  · cases it <;> simp [rowN, Trc.add]
  · cases it <;> simp [rowN, Trc.add]
  · cases it <;> simp [rowN, Trc.add]
  · cases it <;> simp [rowN, Trc.add]
  · obtain ⟨k, rfl⟩ : ∃ k, i = k + 6 := ⟨i - 6, by omega⟩
    cases it <;> simp [rowN, Trc.add]
def txLen (v : Value) : Nat := match v with
  | .string b => b.size
  | _ => 0
theorem txLen_eq (l : List UInt8) : txLen (.string ⟨l.toArray⟩) = l.length := by simp [txLen, ByteArray.size]
set_option maxRecDepth 100000 in
set_option maxHeartbeats 8000000 in
theorem tparse_any (s : List UInt8) (w : World) (hl : s.length ≤ 900000000) (hp : PT w) :
    Calls Tryd.prog 6 #[.string ⟨s.toArray⟩] w (TrcEnd w s) := by
  have hz1 := Blk.new w 31 #[.slice none 0 0, .slice none 0 0, .slice none 0 0, .slice none 0 0, .slice none 0 0, .slice none 0 0, .slice none 0 0]
  have hz2 := hz1.alloc (.cells #[.slice none 0 0, .slice none 0 0, .slice none 0 0, .slice none 0 0, .slice none 0 0, .slice none 0 0, .slice none 0 0] 31)
  have ht := Blk.new (w.alloc (.cells #[.slice none 0 0, .slice none 0 0, .slice none 0 0, .slice none 0 0, .slice none 0 0, .slice none 0 0, .slice none 0 0] 31)) 31 #[.slice none 0 0, .slice none 0 0, .slice none 0 0, .slice none 0 0, .slice none 0 0, .slice none 0 0, .slice none 0 0]
  rw [show ∀ (a : World) (o : Obj), (a.alloc o).heap.size = a.heap.size + 1 from fun a o => by simp] at ht
  have hb2 : Below w.heap.size w ((w.alloc (.cells #[.slice none 0 0, .slice none 0 0, .slice none 0 0, .slice none 0 0, .slice none 0 0, .slice none 0 0, .slice none 0 0] 31)).alloc (.cells #[.slice none 0 0, .slice none 0 0, .slice none 0 0, .slice none 0 0, .slice none 0 0, .slice none 0 0, .slice none 0 0] 31)) := by go_grown
  have HP2 := Lib.hid (hp.below hb2)
  have HGT : Hid (GT (w.heap.size + 1)) := Lib.hid (gt_mono hp.gb (by omega))
  have HB2 := Lib.hid hb2
  have HZ2 := Lib.hid hz2
  have HT2 := Lib.hid ht
  clear hz1 hz2 ht hb2 hp
  go_enter Tryd.func6, Tryd.ntmps6
  go_wp2_with fail
  generalize (w.alloc (.cells #[.slice none 0 0, .slice none 0 0, .slice none 0 0, .slice none 0 0, .slice none 0 0, .slice none 0 0, .slice none 0 0] 31)).alloc (.cells #[.slice none 0 0, .slice none 0 0, .slice none 0 0, .slice none 0 0, .slice none 0 0, .slice none 0 0, .slice none 0 0] 31) = W2 at *
  have HTS := Lib.hid (TrS.start HT2.out HT2.out.lt)
  have HWB : Hid (w.heap.size + 1 < W2.heap.size) := Lib.hid HT2.out.lt
  generalize W2.heap.size = base at *
  go_loopw [0, 6, 7] (fun r gv nv wr => ∃ (rest : List UInt8) (g k : Nat) (v : Nat → Value) (t : Trc) (ds : List (Value × Value)), r = .string ⟨rest.toArray⟩ ∧ gv = .int .i64 ((g - 1 : Nat) : Int) ∧ nv = .int .i64 ((k : Int) + 1) ∧ g ≤ 7 ∧ Hid (TrS wr base (w.heap.size + 1) v t ds) ∧ Hid (PT wr) ∧ Hid (Below w.heap.size w wr) ∧ Hid (∀ e, RunT t g (k + 1) rest e → RunT trc0 0 1 s e) ∧ rest.length + k ≤ s.length ∧ Hid (∀ i, rowN t i ≤ k) ∧ Hid (Blk wr w.heap.size 31 #[.slice none 0 0, .slice none 0 0, .slice none 0 0, .slice none 0 0, .slice none 0 0, .slice none 0 0, .slice none 0 0])) (fun r _ _ _ => txLen r)
  case atStart => exact ⟨s, 0, 0, nilV, trc0, [], rfl, rfl, rfl, by omega, HTS, HP2, HB2, Lib.hid (fun e h => h), by simp, Lib.hid (fun i => by unfold rowN; split <;> simp [trc0]), HZ2⟩
  case round =>
    clear HTS HP2 HB2 HZ2 HT2
    obtain ⟨rest, g, k, v, t, ds, rfl, rfl, rfl, hg7, HT, HPW, HB, HGO, hsz, HRN, HZ⟩ := hrel
    by_cases hR : rest = []
    · subst hR
      have HPO : Hid (RunT trc0 0 1 s (.ok t)) := Lib.hid (HGO.out _ (.done _ _ _))
      obtain ⟨A0, c0, f0, -⟩ := owns_rd (HT.out.row 0 (by omega))
      obtain ⟨A1, c1, f1, -⟩ := owns_rd (HT.out.row 1 (by omega))
      obtain ⟨A2, c2, f2, -⟩ := owns_rd (HT.out.row 2 (by omega))
      obtain ⟨A3, c3, f3, -⟩ := owns_rd (HT.out.row 3 (by omega))
      obtain ⟨A4, c4, f4, -⟩ := owns_rd (HT.out.row 4 (by omega))
      obtain ⟨A5, c5, f5, -⟩ := owns_rd (HT.out.row 5 (by omega))
      obtain ⟨A6, c6, f6, -⟩ := owns_rd (HT.out.row 6 (by omega))
      have HAG : Hid ((Value.agg #[v 0, v 1, v 2, v 3, v 4, v 5, v 6]) = .agg #[.slice A0 (rowN t 0) c0, .slice A1 (rowN t 1) c1, .slice A2 (rowN t 2) c2, .slice A3 (rowN t 3) c3, .slice A4 (rowN t 4) c4, .slice A5 (rowN t 5) c5, .slice A6 (rowN t 6) c6]) := Lib.hid (by rw [f0, f1, f2, f3, f4, f5, f6])
      have t0 := HT.out.blk.cell 0
      have t1 := HT.out.blk.cell 1
      have t2 := HT.out.blk.cell 2
      have t3 := HT.out.blk.cell 3
      have t4 := HT.out.blk.cell 4
      have t5 := HT.out.blk.cell 5
      have t6 := HT.out.blk.cell 6
      simp only [List.getElem?_toArray, List.getElem?_cons_zero, List.getElem?_cons_succ] at t0 t1 t2 t3 t4 t5 t6
      rw [f0] at t0
      rw [f1] at t1
      rw [f2] at t2
      rw [f3] at t3
      rw [f4] at t4
      rw [f5] at t5
      rw [f6] at t6
      clear f0 f1 f2 f3 f4 f5 f6
      have y0 := HZ.out.frozen 0
      have y1 := HZ.out.frozen 1
      have y2 := HZ.out.frozen 2
      have y3 := HZ.out.frozen 3
      have y4 := HZ.out.frozen 4
      have y5 := HZ.out.frozen 5
      have y6 := HZ.out.frozen 6
      have e0 := HZ.out.cell 0
      have e1 := HZ.out.cell 1
      have e2 := HZ.out.cell 2
      have e3 := HZ.out.cell 3
      have e4 := HZ.out.cell 4
      have e5 := HZ.out.cell 5
      have e6 := HZ.out.cell 6
      simp only [List.getElem?_toArray, List.getElem?_cons_zero, List.getElem?_cons_succ] at e0 e1 e2 e3 e4 e5 e6
      have U := blk_set7 HZ.out (.slice A0 (rowN t 0) c0) (.slice A1 (rowN t 1) c1) (.slice A2 (rowN t 2) c2) (.slice A3 (rowN t 3) c3) (.slice A4 (rowN t 4) c4) (.slice A5 (rowN t 5) c5) (.slice A6 (rowN t 6) c6)
      have hs := grown_set7 wr w.heap.size (.slice A0 (rowN t 0) c0) (.slice A1 (rowN t 1) c1) (.slice A2 (rowN t 2) c2) (.slice A3 (rowN t 3) c3) (.slice A4 (rowN t 4) c4) (.slice A5 (rowN t 5) c5) (.slice A6 (rowN t 6) c6)
      have HSX : IsTrc (set7 wr w.heap.size (.slice A0 (rowN t 0) c0) (.slice A1 (rowN t 1) c1) (.slice A2 (rowN t 2) c2) (.slice A3 (rowN t 3) c3) (.slice A4 (rowN t 4) c4) (.slice A5 (rowN t 5) c5) (.slice A6 (rowN t 6) c6)) (.agg #[.slice A0 (rowN t 0) c0, .slice A1 (rowN t 1) c1, .slice A2 (rowN t 2) c2, .slice A3 (rowN t 3) c3, .slice A4 (rowN t 4) c4, .slice A5 (rowN t 5) c5, .slice A6 (rowN t 6) c6]) t ∧ Below w.heap.size w (set7 wr w.heap.size (.slice A0 (rowN t 0) c0) (.slice A1 (rowN t 1) c1) (.slice A2 (rowN t 2) c2) (.slice A3 (rowN t 3) c3) (.slice A4 (rowN t 4) c4) (.slice A5 (rowN t 5) c5) (.slice A6 (rowN t 6) c6)) := ⟨by rw [← HAG.out]; exact (HT.out.far hs (by omega)).is, HB.out.trans (grownBy_below hs (HB.out.size) (fun g e => by injection e with e; omega))⟩
      unfold set7 at U HSX
      have HU := Lib.hid U
      have HS := Lib.hid HSX
      clear U HSX hs
      go_wp2_with fail
      clear t0 t1 t2 t3 t4 t5 t6 e0 e1 e2 e3 e4 e5 e6 y0 y1 y2 y3 y4 y5 y6
      generalize ((((((wr.setCell ⟨w.heap.size, 0, none⟩ (.slice A0 (rowN t 0) c0)).setCell ⟨w.heap.size, 1, none⟩ (.slice A1 (rowN t 1) c1)).setCell ⟨w.heap.size, 2, none⟩ (.slice A2 (rowN t 2) c2)).setCell ⟨w.heap.size, 3, none⟩ (.slice A3 (rowN t 3) c3)).setCell ⟨w.heap.size, 4, none⟩ (.slice A4 (rowN t 4) c4)).setCell ⟨w.heap.size, 5, none⟩ (.slice A5 (rowN t 5) c5)).setCell ⟨w.heap.size, 6, none⟩ (.slice A6 (rowN t 6) c6) = W9 at *
      have u0 := HU.out.cell 0
      have u1 := HU.out.cell 1
      have u2 := HU.out.cell 2
      have u3 := HU.out.cell 3
      have u4 := HU.out.cell 4
      have u5 := HU.out.cell 5
      have u6 := HU.out.cell 6
      simp only [List.getElem?_toArray, List.getElem?_cons_zero, List.getElem?_cons_succ] at u0 u1 u2 u3 u4 u5 u6
      exact bodyPost_ret (v := .tuple #[.agg #[.slice A0 (rowN t 0) c0, .slice A1 (rowN t 1) c1, .slice A2 (rowN t 2) c2, .slice A3 (rowN t 3) c3, .slice A4 (rowN t 4) c4, .slice A5 (rowN t 5) c5, .slice A6 (rowN t 6) c6], .int .i64 0, .int .i64 0]) (by simp [results, Tryd.results6, go_sem, u0, u1, u2, u3, u4, u5, u6]) rfl ⟨HS.out.2, .inl ⟨t, _, HPO.out, rfl, HS.out.1⟩⟩
    · have hRl : 0 < rest.length := List.length_pos_iff.2 hR
      have HRNE := Lib.hid hR
      have q0 : (!rest.isEmpty) = true := by cases rest with | nil => exact absurd rfl hR | cons _ _ => rfl
      clear hR
      go_wp2_with fail
      refine (cut_any 10 rest wr (by omega) HPW.out.ml).mono ?_
      rintro e w3 ⟨rfl, nd, rfl⟩
      have HBD : Hid (Below wr.heap.size wr (wr.drewN nd)) := Lib.hid (bdrew (Below.refl _ _) nd)
      rcases cut_split 10 rest with ⟨hno, hcut⟩ | ⟨a, b, hab, hna, hcut⟩
      · have HBAD : Hid (RunT trc0 0 1 s (.bad (k + 1))) := Lib.hid (HGO.out _ (.cut HRNE.out hno))
        rw [hcut]
        clear hcut hno
        generalize wr.drewN nd = w3 at *
        have HB3 := Lib.hid (HB.out.trans (HBD.out.mono HB.out.size))
        have HZ3 := Lib.hid (HZ.out.keep HBD.out)
        have y0 := HZ3.out.frozen 0
        have y1 := HZ3.out.frozen 1
        have y2 := HZ3.out.frozen 2
        have y3 := HZ3.out.frozen 3
        have y4 := HZ3.out.frozen 4
        have y5 := HZ3.out.frozen 5
        have y6 := HZ3.out.frozen 6
        have e0 := HZ3.out.cell 0
        have e1 := HZ3.out.cell 1
        have e2 := HZ3.out.cell 2
        have e3 := HZ3.out.cell 3
        have e4 := HZ3.out.cell 4
        have e5 := HZ3.out.cell 5
        have e6 := HZ3.out.cell 6
        simp only [List.getElem?_toArray, List.getElem?_cons_zero, List.getElem?_cons_succ] at e0 e1 e2 e3 e4 e5 e6
        have U := blk_set7 HZ3.out (.slice none 0 0) (.slice none 0 0) (.slice none 0 0) (.slice none 0 0) (.slice none 0 0) (.slice none 0 0) (.slice none 0 0)
        have hs := grown_set7 w3 w.heap.size (.slice none 0 0) (.slice none 0 0) (.slice none 0 0) (.slice none 0 0) (.slice none 0 0) (.slice none 0 0) (.slice none 0 0)
        have HSX : Below w.heap.size w (set7 w3 w.heap.size (.slice none 0 0) (.slice none 0 0) (.slice none 0 0) (.slice none 0 0) (.slice none 0 0) (.slice none 0 0) (.slice none 0 0)) := HB3.out.trans (grownBy_below hs (HB3.out.size) (fun g e => by injection e with e; omega))
        unfold set7 at U HSX
        have HU := Lib.hid U
        have HS := Lib.hid HSX
        clear U HSX hs
        go_wp2_with fail
        clear e0 e1 e2 e3 e4 e5 e6 y0 y1 y2 y3 y4 y5 y6
        generalize ((((((w3.setCell ⟨w.heap.size, 0, none⟩ (.slice none 0 0)).setCell ⟨w.heap.size, 1, none⟩ (.slice none 0 0)).setCell ⟨w.heap.size, 2, none⟩ (.slice none 0 0)).setCell ⟨w.heap.size, 3, none⟩ (.slice none 0 0)).setCell ⟨w.heap.size, 4, none⟩ (.slice none 0 0)).setCell ⟨w.heap.size, 5, none⟩ (.slice none 0 0)).setCell ⟨w.heap.size, 6, none⟩ (.slice none 0 0) = W9 at *
        have u0 := HU.out.cell 0
        have u1 := HU.out.cell 1
        have u2 := HU.out.cell 2
        have u3 := HU.out.cell 3
        have u4 := HU.out.cell 4
        have u5 := HU.out.cell 5
        have u6 := HU.out.cell 6
        simp only [List.getElem?_toArray, List.getElem?_cons_zero, List.getElem?_cons_succ] at u0 u1 u2 u3 u4 u5 u6
        exact bodyPost_ret (v := .tuple #[.agg #[.slice none 0 0, .slice none 0 0, .slice none 0 0, .slice none 0 0, .slice none 0 0, .slice none 0 0, .slice none 0 0], .int .i64 11, .int .i64 ((k : Int) + 1)]) (by simp [results, Tryd.results6, go_sem, u0, u1, u2, u3, u4, u5, u6]) rfl ⟨HS.out, .inr ⟨k + 1, HBAD.out, rfl⟩⟩
      · rw [hcut]
        clear hcut
        generalize wr.drewN nd = w3 at *
        have hal : a.length + b.length + 1 = rest.length := by rw [hab]; simp; omega
        go_wp2_with fail
        have hpe := pieces_ne 32 a
        obtain ⟨h, ps, hps⟩ : ∃ h ps, pieces 32 a = h :: ps := by
          cases e : pieces 32 a with
          | nil => exact absurd e hpe
          | cons h ps => exact ⟨h, ps, rfl⟩
        have HLI := Lib.hid (lineI_of hps)
        have HAB := Lib.hid hab
        have HNA := Lib.hid hna
        refine (split_new 32 a w3 (by omega) (HPW.out.below HBD.out).ml).mono ?_
        rintro e w4 ⟨kk, rfl, htx, hb4⟩
        have hpl := pieces_len 32 a
        rw [hps] at htx hpl ⊢
        have HPT : Hid (∀ p ∈ ps, p.length ≤ 1000000000) := Lib.hid (fun p hp => by have := (pieces_mem (show p ∈ pieces 32 a by rw [hps]; simp [hp])).2; omega)
        have HPN : Hid (ps.length ≤ 1000000000) := Lib.hid (by simp at hpl; omega)
        obtain ⟨A', c', ex, kx1, kx2, hrd⟩ := htx
        injection ex with ex1 ex2 ex3
        subst ex3
        rw [← ex1] at hrd
        have hc0 : ∀ j s, (h :: ps)[j]? = some s → w4.cell? ⟨w3.heap.size, 0 + j, none⟩ = some (.string ⟨s.toArray⟩) := fun j s hj => by
          obtain ⟨b', off', e1, e2, e3⟩ := hrd (by simp)
          injection e1 with e1
          injection e1 with e1 e4 _
          subst e1 e4
          exact e3 j _ (by rw [List.getElem?_map, hj]; rfl)
        have hab4 : w3.heap.size < w4.heap.size := by
          obtain ⟨b', off', e1, e2, e3⟩ := hrd (by simp)
          injection e1 with e1
          injection e1 with e1 e4 _
          subst e1
          exact e2
        have HB34 := Lib.hid (HBD.out.trans (hb4.mono HBD.out.size))
        have HT4 := Lib.hid (HT.out.keep HB34.out)
        have HP4 := Lib.hid (HPW.out.below HB34.out)
        have HB4 := Lib.hid (HB.out.trans (HB34.out.mono HB.out.size))
        have HZ4 := Lib.hid (HZ.out.keep HB34.out)
        have HRN2 : Hid (∀ i, rowN t i ≤ 1000000000) := Lib.hid (fun i => by have := HRN.out i; omega)
        have HCALL := Lib.hid (tline_rd h base (w.heap.size + 1) w3.heap.size 0 (h :: ps).length kk ps v t ds w4 HT4.out HP4.out HGT.out (by simp) kx1 kx2 hab4 hc0 HPT.out HRN2.out HPN.out)
        clear hb4 hc0 hab4 hrd ex1 ex2 kx1 kx2 hpl hps hpe hab hna
        generalize (h :: ps).length = n4 at *
        go_wp2_with fail
        refine HCALL.out.mono ?_
        rintro e w5 ⟨g2, okb, rfl, hb5, hy, hn⟩
        have HY := Lib.hid hy
        have HNO := Lib.hid hn
        have HB5 : Hid (Below w.heap.size w w5) := Lib.hid (HB4.out.trans (hb5.mono (by omega)))
        have HZ5 := Lib.hid (HZ4.out.below hb5 (by omega))
        have HP5 : Hid (PT w5) := Lib.hid (HP4.out.keep hb5 HGT.out)
        clear hb5 hy hn
        cases hit : itemI h ps with
        | none =>
          obtain rfl := HNO.out hit
          have HBAD : Hid (RunT trc0 0 1 s (.bad (k + 1))) := Lib.hid (HGO.out _ (.wrong HAB.out HNA.out (fun i hi => by rw [HLI.out, hit] at hi; cases hi)))
          clear hit
          have y0 := HZ5.out.frozen 0
          have y1 := HZ5.out.frozen 1
          have y2 := HZ5.out.frozen 2
          have y3 := HZ5.out.frozen 3
          have y4 := HZ5.out.frozen 4
          have y5 := HZ5.out.frozen 5
          have y6 := HZ5.out.frozen 6
          have e0 := HZ5.out.cell 0
          have e1 := HZ5.out.cell 1
          have e2 := HZ5.out.cell 2
          have e3 := HZ5.out.cell 3
          have e4 := HZ5.out.cell 4
          have e5 := HZ5.out.cell 5
          have e6 := HZ5.out.cell 6
          simp only [List.getElem?_toArray, List.getElem?_cons_zero, List.getElem?_cons_succ] at e0 e1 e2 e3 e4 e5 e6
          have U := blk_set7 HZ5.out (.slice none 0 0) (.slice none 0 0) (.slice none 0 0) (.slice none 0 0) (.slice none 0 0) (.slice none 0 0) (.slice none 0 0)
          have hs := grown_set7 w5 w.heap.size (.slice none 0 0) (.slice none 0 0) (.slice none 0 0) (.slice none 0 0) (.slice none 0 0) (.slice none 0 0) (.slice none 0 0)
          have HSX : Below w.heap.size w (set7 w5 w.heap.size (.slice none 0 0) (.slice none 0 0) (.slice none 0 0) (.slice none 0 0) (.slice none 0 0) (.slice none 0 0) (.slice none 0 0)) := HB5.out.trans (grownBy_below hs (HB5.out.size) (fun g e => by injection e with e; omega))
          unfold set7 at U HSX
          have HU := Lib.hid U
          have HS := Lib.hid HSX
          clear U HSX hs
          go_wp2_with fail
          clear e0 e1 e2 e3 e4 e5 e6 y0 y1 y2 y3 y4 y5 y6
          generalize ((((((w5.setCell ⟨w.heap.size, 0, none⟩ (.slice none 0 0)).setCell ⟨w.heap.size, 1, none⟩ (.slice none 0 0)).setCell ⟨w.heap.size, 2, none⟩ (.slice none 0 0)).setCell ⟨w.heap.size, 3, none⟩ (.slice none 0 0)).setCell ⟨w.heap.size, 4, none⟩ (.slice none 0 0)).setCell ⟨w.heap.size, 5, none⟩ (.slice none 0 0)).setCell ⟨w.heap.size, 6, none⟩ (.slice none 0 0) = W9 at *
          have u0 := HU.out.cell 0
          have u1 := HU.out.cell 1
          have u2 := HU.out.cell 2
          have u3 := HU.out.cell 3
          have u4 := HU.out.cell 4
          have u5 := HU.out.cell 5
          have u6 := HU.out.cell 6
          simp only [List.getElem?_toArray, List.getElem?_cons_zero, List.getElem?_cons_succ] at u0 u1 u2 u3 u4 u5 u6
          exact bodyPost_ret (v := .tuple #[.agg #[.slice none 0 0, .slice none 0 0, .slice none 0 0, .slice none 0 0, .slice none 0 0, .slice none 0 0, .slice none 0 0], .int .i64 11, .int .i64 ((k : Int) + 1)]) (by simp [results, Tryd.results6, go_sem, u0, u1, u2, u3, u4, u5, u6]) rfl ⟨HS.out, .inr ⟨k + 1, HBAD.out, rfl⟩⟩
        | some it =>
          obtain ⟨rfl, rfl, v', ds', hT'⟩ := HY.out it hit
          have HIT : Hid (lineI a = some it) := Lib.hid (by rw [HLI.out, hit])
          have HGL := Lib.hid it.group_le
          have HT5 := Lib.hid hT'
          clear hit hT'
          by_cases hlt : it.group < g
          · have HBAD : Hid (RunT trc0 0 1 s (.bad (k + 1))) := Lib.hid (HGO.out _ (.wrong HAB.out HNA.out (fun i hi => by rw [HIT.out] at hi; injection hi with hi; subst hi; exact hlt)))
            have d1 : ((it.group : Int) - 1) < ((g - 1 : Nat) : Int) := by have := HGL.out; omega
            have d2 : decide (((it.group : Int) - 1) < ((g - 1 : Nat) : Int)) = true := by simpa using d1
            clear hlt
            have y0 := HZ5.out.frozen 0
            have y1 := HZ5.out.frozen 1
            have y2 := HZ5.out.frozen 2
            have y3 := HZ5.out.frozen 3
            have y4 := HZ5.out.frozen 4
            have y5 := HZ5.out.frozen 5
            have y6 := HZ5.out.frozen 6
            have e0 := HZ5.out.cell 0
            have e1 := HZ5.out.cell 1
            have e2 := HZ5.out.cell 2
            have e3 := HZ5.out.cell 3
            have e4 := HZ5.out.cell 4
            have e5 := HZ5.out.cell 5
            have e6 := HZ5.out.cell 6
            simp only [List.getElem?_toArray, List.getElem?_cons_zero, List.getElem?_cons_succ] at e0 e1 e2 e3 e4 e5 e6
            have U := blk_set7 HZ5.out (.slice none 0 0) (.slice none 0 0) (.slice none 0 0) (.slice none 0 0) (.slice none 0 0) (.slice none 0 0) (.slice none 0 0)
            have hs := grown_set7 w5 w.heap.size (.slice none 0 0) (.slice none 0 0) (.slice none 0 0) (.slice none 0 0) (.slice none 0 0) (.slice none 0 0) (.slice none 0 0)
            have HSX : Below w.heap.size w (set7 w5 w.heap.size (.slice none 0 0) (.slice none 0 0) (.slice none 0 0) (.slice none 0 0) (.slice none 0 0) (.slice none 0 0) (.slice none 0 0)) := HB5.out.trans (grownBy_below hs (HB5.out.size) (fun g e => by injection e with e; omega))
            unfold set7 at U HSX
            have HU := Lib.hid U
            have HS := Lib.hid HSX
            clear U HSX hs
            go_wp2_with fail
            clear e0 e1 e2 e3 e4 e5 e6 y0 y1 y2 y3 y4 y5 y6
            generalize ((((((w5.setCell ⟨w.heap.size, 0, none⟩ (.slice none 0 0)).setCell ⟨w.heap.size, 1, none⟩ (.slice none 0 0)).setCell ⟨w.heap.size, 2, none⟩ (.slice none 0 0)).setCell ⟨w.heap.size, 3, none⟩ (.slice none 0 0)).setCell ⟨w.heap.size, 4, none⟩ (.slice none 0 0)).setCell ⟨w.heap.size, 5, none⟩ (.slice none 0 0)).setCell ⟨w.heap.size, 6, none⟩ (.slice none 0 0) = W9 at *
            have u0 := HU.out.cell 0
            have u1 := HU.out.cell 1
            have u2 := HU.out.cell 2
            have u3 := HU.out.cell 3
            have u4 := HU.out.cell 4
            have u5 := HU.out.cell 5
            have u6 := HU.out.cell 6
            simp only [List.getElem?_toArray, List.getElem?_cons_zero, List.getElem?_cons_succ] at u0 u1 u2 u3 u4 u5 u6
            exact bodyPost_ret (v := .tuple #[.agg #[.slice none 0 0, .slice none 0 0, .slice none 0 0, .slice none 0 0, .slice none 0 0, .slice none 0 0, .slice none 0 0], .int .i64 11, .int .i64 ((k : Int) + 1)]) (by simp [results, Tryd.results6, go_sem, u0, u1, u2, u3, u4, u5, u6]) rfl ⟨HS.out, .inr ⟨k + 1, HBAD.out, rfl⟩⟩
          · have HGO2 : Hid (∀ e, RunT (t.add it) it.group (k + 1 + 1) b e → RunT trc0 0 1 s e) := Lib.hid (fun e he => HGO.out e (.next HAB.out HNA.out HIT.out hlt he))
            have d1 : ¬ ((it.group : Int) - 1) < ((g - 1 : Nat) : Int) := by have := HGL.out; omega
            have d2 : decide (((it.group : Int) - 1) < ((g - 1 : Nat) : Int)) = false := by simpa using d1
            have hgl := HGL.out.2
            have hgc : ((it.group : Int) - 1) = ((it.group - 1 : Nat) : Int) := by have := HGL.out.1; omega
            have HRN3 : Hid (∀ i, rowN (t.add it) i ≤ k + 1) := Lib.hid (fun i => by have := rowN_add t it i; have := HRN.out i; omega)
            clear hlt
            go_wp2_with fail
            go_roundw
            case rel => exact ⟨b, it.group, k + 1, v', t.add it, ds', rfl, by rw [← hgc], by go_num, hgl, HT5, HP5, HB5, HGO2, by omega, HRN3, HZ5⟩
            case measure => rw [txLen_eq, txLen_eq]; omega
end Go.Proofs.YtmnjmegejaejlaaDoor
