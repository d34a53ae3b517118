/-
  WALKS: interleaveref16.long, longs, list.
-/
import Derived.Test.YtmnjmegejaejlaaDoorTR13
namespace Go.Proofs.YtmnjmegejaejlaaDoor
open Go.RowKit

theorem info_long : (Tryd.prog.info? 2).map (fun i => (i.zero, i.size, i.bytes)) = some (some (.int .i64 0), 1, 8) := by kernel_rfl
/-- A slice of long numbers that the call has made. -/
def OwnL (w' : World) (base : Nat) (v : Value) (xs : List Int) : Prop := w'.ownsRow base 2 1 v xs.length (xs.map (Value.int .i64)) ∧ ∀ x ∈ xs, I64 x
theorem OwnL.keep {w w' : World} {base : Nat} {v : Value} {xs : List Int} (h : OwnL w base v xs) (hb : Below w.heap.size w w') : OwnL w' base v xs := ⟨owns_keep h.1 hb, h.2⟩
/-- What the reading of a long number answers. -/
def LongRet (w : World) (p : List UInt8) (e : Ending) (w' : World) : Prop := ∃ v : Int, e = .returned (.tuple #[.int .i64 v, .bool (canonI p).isSome]) ∧ I64 v ∧ (∀ x, canonI p = some x → v = x) ∧ Below w.heap.size w w'
set_option maxRecDepth 100000 in
set_option maxHeartbeats 2000000 in
theorem rlong_any (s : List UInt8) (w : World) (hp : PT w) (hl : s.length ≤ 1000000000) :
    Calls Tryd.prog 57 #[.string ⟨s.toArray⟩] w (LongRet w s) := by
  have HP := Lib.hid hp
  have HL := Lib.hid hl
  clear hp hl
  go_enter Tryd.func57, Tryd.ntmps57
  by_cases hat : ∃ v, Lib.atoiAll s = .ok v
  · obtain ⟨v, hv⟩ := hat
    have HV : Hid (I64 v) := Lib.hid (atoi_range hv)
    have HA := Lib.hid hv
    clear hv
    go_wp2_with fail
    refine (pint_ok s v w HA.out HL.out).mono ?_
    rintro e w3 ⟨rfl, hb3⟩
    have HB3 := Lib.hid hb3
    clear hb3
    go_wp2_with fail
    refine (fint_any v w3 HV.out (HP.out.below HB3.out).tab).mono ?_
    rintro e w4 ⟨rfl, hb4⟩
    have HB4 := Lib.hid (HB3.out.trans (hb4.mono HB3.out.size))
    clear hb4
    by_cases hc : Lib.itoa v = s
    · have HC : Hid (canonI s = some v) := Lib.hid (by unfold canonI; rw [HA.out]; simp [hc])
      have q0 : (Lib.itoa v == s) = true := by rw [beq_iff_eq]; exact hc
      generalize Lib.itoa v = tx at *
      clear hc
      go_wp2_with fail
      go_ret2
      refine ⟨v, by rw [HC.out]; rfl, HV.out, fun x hx => ?_, HB4.out⟩
      rw [HC.out] at hx; injection hx
    · have HC : Hid (canonI s = none) := Lib.hid (by unfold canonI; rw [HA.out]; simp [hc])
      have q0 : (Lib.itoa v == s) = false := by rw [beq_eq_false_iff_ne]; exact hc
      generalize Lib.itoa v = tx at *
      clear hc
      go_wp2_with fail
      go_ret2
      refine ⟨v, by rw [HC.out]; rfl, HV.out, fun x hx => ?_, HB4.out⟩
      rw [HC.out] at hx; cases hx
  · have HA : Hid (∀ v, Lib.atoiAll s ≠ .ok v) := Lib.hid (fun v hv => hat ⟨v, hv⟩)
    have HC : Hid (canonI s = none) := Lib.hid (by
      unfold canonI
      cases e : Lib.atoiAll s with
      | ok v => exact absurd e (HA.out v)
      | _ => rfl)
    clear hat
    go_wp2_with fail
    refine (pint_bad s w HA.out HL.out HP.out).mono ?_
    rintro e w3 ⟨v, N, rfl, hne, hv, hb3⟩
    have HV := Lib.hid hv
    have HB3 := Lib.hid hb3
    have HNE := Lib.hid hne
    clear hb3 hv hne
    go_wp2_with fail
    refine (fint_any v w3 HV.out (HP.out.below HB3.out).tab).mono ?_
    rintro e w4 ⟨rfl, hb4⟩
    have HB4 := Lib.hid (HB3.out.trans (hb4.mono HB3.out.size))
    clear hb4
    have q0 : (Lib.itoa v == s) = false := by rw [beq_eq_false_iff_ne]; exact HNE.out
    have HNE2 : Hid True := Lib.hid trivial
    clear HNE
    generalize Lib.itoa v = tx at *
    go_wp2_with fail
    go_ret2
    refine ⟨v, by rw [HC.out]; rfl, HV.out, fun x hx => ?_, HB4.out⟩
    rw [HC.out] at hx; cases hx
/-- What the reading of long numbers answers. -/
def LongsRet (w : World) (l : List (List UInt8)) (e : Ending) (w' : World) : Prop :=
  Below w.heap.size w w' ∧ ((∃ ns A c, l.mapM canonI = some ns ∧ e = .returned (.tuple #[.slice A ns.length c, .bool true]) ∧ OwnL w' w.heap.size (.slice A ns.length c) ns) ∨ (l.mapM canonI = none ∧ e = .returned (.tuple #[.slice none 0 0, .bool false])))
set_option maxRecDepth 100000 in
set_option maxHeartbeats 4000000 in
theorem rlongs_any (A : Option Addr) (c : Nat) (l : List (List UInt8)) (w : World) (h : Txts w (.slice A l.length c) l) (hp : PT w) (hl : ∀ p ∈ l, p.length ≤ 1000000000) (hn : l.length ≤ 1000000000) :
    Calls Tryd.prog 37 #[.slice A l.length c] w (LongsRet w l) := by
  obtain ⟨A', c', ex, kx1, kx2, hrd⟩ := h
  injection ex with ex1 ex2 ex3
  subst ex1 ex3
  have HRD := Lib.hid hrd
  have HP := Lib.hid hp
  have HL := Lib.hid hl
  clear hp hl hrd ex2
  obtain ⟨iI, hiI, hzI0, hzI1, hzI2⟩ := info_parts info_long
  unfold maxLen at kx2
  go_enter Tryd.func37, Tryd.ntmps37
  go_wp2_with fail
  go_loopw [4, 5] (fun lv iv wr => ∃ (i : Nat) (ns : List Int), i ≤ l.length ∧ iv = .int .i64 i ∧ Hid (OwnL wr w.heap.size lv ns) ∧ Hid ((l.take i).mapM canonI = some ns) ∧ Hid (Below w.heap.size w wr)) (fun _ iv _ => l.length - (intOf iv).toNat)
  case atStart => exact ⟨0, [], by omega, rfl, Lib.hid ⟨World.ownsRow_nil _ _ _ _, by simp⟩, Lib.hid (by simp), Lib.hid (Below.refl _ _)⟩
  case round =>
    obtain ⟨i, ns, hi, rfl, HO, HNS, HB⟩ := hrel
    obtain ⟨Ao, co, eo, -, -, -⟩ := owns_rd HO.out.1
    subst eo
    have HNL : Hid (ns.length = i) := Lib.hid (by have := mapM_len HNS.out; rw [this, List.length_take]; omega)
    have HPW := Lib.hid (HP.out.below HB.out)
    by_cases hlt : i < l.length
    · obtain ⟨p, hpp⟩ : ∃ p, l[i]? = some p := ⟨_, List.getElem?_eq_getElem hlt⟩
      obtain ⟨b, off, rfl, hbl, hcl0⟩ := HRD.out.at_ (k := i) (u := .string ⟨p.toArray⟩) (by rw [List.getElem?_map, hpp]; rfl)
      have hcl : wr.cell? ⟨b, off + i, none⟩ = some (.string ⟨p.toArray⟩) := (HB.out.cell (p := ⟨b, off + i, none⟩) hbl).trans hcl0
      have hbw : b < wr.heap.size := Nat.lt_of_lt_of_le hbl HB.out.size
      have HPP := Lib.hid hpp
      have HPL := Lib.hid (HL.out p (List.mem_of_getElem? hpp))
      clear hpp hcl0 hbl
      go_wp2_with fail
      refine (rlong_any p wr HPW.out HPL.out).mono ?_
      rintro e w3 ⟨x, rfl, hx, hcx, hb3⟩
      have HB3 := Lib.hid hb3
      have HBW := Lib.hid (HB.out.trans (hb3.mono HB.out.size))
      have HX := Lib.hid hx
      have HCX := Lib.hid hcx
      clear hb3 hx hcx hcl
      cases hc : canonI p with
      | none =>
        have HN : Hid (l.mapM canonI = none) := Lib.hid (mapM_bad (List.mem_of_getElem? HPP.out) hc)
        clear hc
        go_wp2_with fail
        go_ret2
        exact ⟨HBW.out, .inr ⟨HN.out, rfl⟩⟩
      | some x' =>
        obtain rfl := HCX.out x' hc
        have HN2 := Lib.hid (mapM_take HNS.out HPP.out hc)
        have HO3 := Lib.hid (HO.out.keep HB3.out)
        clear hc
        go_wp2_with (at_builtin; refine wpList_append_own_at _ rfl _ _ 83 rfl w.heap.size 2 iI (.int .i64 0) 1 8 Tryd.underlying83 hiI hzI0 hzI1 hzI2 rfl (by decide) _ _ _ rfl (HO3.out.1.alloc _) ⟨w3.heap.size, 0, none⟩ 1 1 [.int .i64 x] rfl rfl (one_at w3 _ _) ?a2 ?a3 ?a4 ?a5 ?_)
        case a2 => intro u hu; simp at hu; subst hu; rfl
        case a3 => have := HNL.out; unfold maxLen; omega
        case a4 => have := HNL.out; omega
        case a5 => have := HBW.out.size; simp; omega
        intro v7 w7 hown hgrow _ hat
        have HO7 : Hid (OwnL w7 w.heap.size v7 (ns ++ [x])) := Lib.hid ⟨by simpa using hown, fun z hz => by
          rcases List.mem_append.1 hz with hz | hz
          · exact HO3.out.2 z hz
          · rw [List.mem_singleton] at hz; subst hz; exact HX.out⟩
        have HB7 : Hid (Below w.heap.size w w7) := Lib.hid ((HBW.out.alloc HBW.out.size _).grown hgrow (by have := HBW.out.size; simp; omega) fun k e => (HO3.out.1.lt k e).1)
        obtain ⟨A7, c7, e7, -, -, -⟩ := owns_rd hown
        subst e7
        clear hown hgrow hat
        go_wp2_with fail
        go_roundw
        case rel => exact ⟨i + 1, ns ++ [x], by omega, by go_num, by simpa using HO7, HN2, HB7⟩
        case measure => simp [intOf]; omega
    · obtain rfl : i = l.length := by omega
      have HN : Hid (l.mapM canonI = some ns) := Lib.hid (by have h := HNS.out; rwa [List.take_length] at h)
      go_wp2_with fail
      go_ret2
      exact ⟨HB.out, .inl ⟨ns, _, _, HN.out, rfl, HO.out⟩⟩
end Go.Proofs.YtmnjmegejaejlaaDoor
