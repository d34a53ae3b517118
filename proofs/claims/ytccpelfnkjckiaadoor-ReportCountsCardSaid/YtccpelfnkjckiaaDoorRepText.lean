/-
  WALK: report.place; the reference's word. The text of a report.
-/
import Derived.Test.YtccpelfnkjckiaaDoorRepLess
import Derived.Test.YtccpelfnkjckiaaDoorForm
import Derived.Deep.RegionHeld3
namespace Go.Proofs.YtccpelfnkjckiaaDoor
open Go.RowKit

/-- The value v is a slice of strings. -/
def Strs (w : World) (v : Value) (l : List (List UInt8)) : Prop :=
  ∃ A c, v = .slice A l.length c ∧ l.length ≤ c ∧ c ≤ maxLen ∧ (∀ s ∈ l, s.length ≤ 140737488355328) ∧ Rd w A (l.map fun s => Value.string ⟨s.toArray⟩)
theorem Strs.keep {w w' : World} {v : Value} {l : List (List UInt8)} (h : Strs w v l) (hb : Below w.heap.size w w') : Strs w' v l := by
  obtain ⟨A, c, h1, h2, h3, h4, h5⟩ := h
  exact ⟨A, c, h1, h2, h3, h4, h5.keep hb⟩
/-- The value v is a world with the threads thr and the sites sts (thread, statement, line). -/
def IsWld (w : World) (v : Value) (thr : List (List UInt8)) (sts : List Diff) : Prop :=
  ∃ c0 c1 c2 c3 tv sv, v = .agg #[c0, c1, c2, c3, tv, sv] ∧ Strs w tv thr ∧ Diffs w sv sts
theorem IsWld.keep {w w' : World} {v : Value} {thr : List (List UInt8)} {sts : List Diff} (h : IsWld w v thr sts) (hb : Below w.heap.size w w') : IsWld w' v thr sts := by
  obtain ⟨c0, c1, c2, c3, tv, sv, h1, h2, h3⟩ := h
  exact ⟨c0, c1, c2, c3, tv, sv, h1, h2.keep hb, h3.keep hb⟩

/-- The text of a site. -/
def siteText (thr : List (List UInt8)) (sts : List Diff) (i : Int) : List UInt8 :=
  if i < 0 then [63] else match sts[i.toNat]? with
    | none => [63]
    | some d => if d.x < 0 then [63] else match thr[d.x.toNat]? with
      | none => [63]
      | some s => s ++ [58] ++ Lib.itoa d.c
theorem siteText_neg {thr : List (List UInt8)} {sts : List Diff} {i : Int} (h : i < 0) : siteText thr sts i = [63] := by unfold siteText; rw [if_pos h]
theorem siteText_far {thr : List (List UInt8)} {sts : List Diff} {k : Nat} (h : sts.length ≤ k) : siteText thr sts k = [63] := by
  unfold siteText; rw [if_neg (by omega), Int.toNat_natCast, List.getElem?_eq_none h]
theorem siteText_tneg {thr : List (List UInt8)} {sts : List Diff} {k : Nat} {d : Diff} (h : sts[k]? = some d) (h2 : d.x < 0) : siteText thr sts k = [63] := by
  unfold siteText; rw [if_neg (by omega), Int.toNat_natCast, h]; simp only [h2, if_true]
theorem siteText_tfar {thr : List (List UInt8)} {sts : List Diff} {k t : Nat} {d : Diff} (h : sts[k]? = some d) (h2 : d.x = t) (h3 : thr.length ≤ t) : siteText thr sts k = [63] := by
  unfold siteText; rw [if_neg (by omega), Int.toNat_natCast, h]; simp only
  rw [if_neg (by omega), h2, Int.toNat_natCast, List.getElem?_eq_none h3]
theorem siteText_at {thr : List (List UInt8)} {sts : List Diff} {k t : Nat} {d : Diff} {s : List UInt8} (h : sts[k]? = some d) (h2 : d.x = t) (h3 : thr[t]? = some s) : siteText thr sts k = s ++ [58] ++ Lib.itoa d.c := by
  unfold siteText; rw [if_neg (by omega), Int.toNat_natCast, h]; simp only
  rw [if_neg (by omega), h2, Int.toNat_natCast, h3]
theorem str_append2 (a b : List UInt8) : (ByteArray.mk a.toArray) ++ (ByteArray.mk b.toArray) = ByteArray.mk (a ++ b).toArray := by
  apply ByteArray.ext
  simp
theorem str_append3 (a b c : List UInt8) : (ByteArray.mk a.toArray) ++ (ByteArray.mk b.toArray) ++ (ByteArray.mk c.toArray) = ByteArray.mk (a ++ b ++ c).toArray := by
  rw [str_append2, str_append2]
theorem ret_str {a b : List UInt8} (h : a = b) : Ending.returned (.string ⟨a.toArray⟩) = .returned (.string ⟨b.toArray⟩) := by rw [h]

theorem Rd.str {w : World} {A : Option Addr} {l : List (List UInt8)} (h : Rd w A (l.map fun s => Value.string ⟨s.toArray⟩)) {k : Nat} {s : List UInt8} (hk : l[k]? = some s) :
    ∃ b off, A = some ⟨b, off, none⟩ ∧ b < w.heap.size ∧ w.cell? ⟨b, off + k, none⟩ = some (.string ⟨s.toArray⟩) :=
  h.at_ (by rw [List.getElem?_map, hk]; rfl)

set_option maxRecDepth 100000 in
set_option maxHeartbeats 2000000 in
theorem place_any (wv : Value) (thr : List (List UInt8)) (sts : List Diff) (i : Int) (w : World) (hw : IsWld w wv thr sts) (hT : Tab w) (hi : I64 i) :
    Calls Tryd.prog 49 #[wv, .int .i64 i] w fun e w' => e = .returned (.string ⟨(siteText thr sts i).toArray⟩) ∧ Below w.heap.size w w' := by
  obtain ⟨c0, c1, c2, c3, tv, sv, rfl, ht, hs⟩ := hw
  have HT := Lib.hid hT
  obtain ⟨At, ct, rfl, t1, t2, hts, htr⟩ := ht
  have HTR := Lib.hid htr
  have HTS := Lib.hid hts
  obtain ⟨As, cs, rfl, s1, s2, hsk, hsr⟩ := hs
  have HSR := Lib.hid hsr
  have HSK := Lib.hid hsk
  unfold maxLen at t2 s2
  have htl := hT.lt
  obtain ⟨hi1, hi2⟩ := hi
  clear hT htr hsr hts hsk
  by_cases h0 : i < 0
  · have HV := Lib.hid (siteText_neg (thr := thr) (sts := sts) h0)
    go_enter Tryd.func49, Tryd.ntmps49
    go_wp2_with fail
    go_ret
    exact ⟨(ret_str HV.out).symm, (Below.refl _ _).alloc (Nat.le_refl _) _⟩
  · obtain ⟨k, rfl⟩ : ∃ k : Nat, i = k := ⟨i.toNat, by omega⟩
    have d0 : decide ((k : Int) < 0) = false := by simp
    by_cases hk : k < sts.length
    · obtain ⟨d, hd⟩ : ∃ d, sts[k]? = some d := ⟨_, List.getElem?_eq_getElem hk⟩
      obtain ⟨b1, o1, rfl, hb1, hx1, hy1, hz1⟩ := HSR.out.diff hd
      have HD := Lib.hid hd
      have HOK := Lib.hid (HSK.out d (List.mem_of_getElem? hd))
      obtain ⟨dx, dy, dc⟩ := d
      simp only at hx1 hy1 hz1
      clear hd
      have d1 : decide (sts.length ≤ k) = false := by simp; omega
      by_cases h1 : dx < 0
      · have d2 : decide (dx < 0) = true := by simp; omega
        have HV := Lib.hid (siteText_tneg (thr := thr) HD.out h1)
        go_enter Tryd.func49, Tryd.ntmps49
        go_wp2_with fail
        go_ret
        exact ⟨(ret_str HV.out).symm, ((Below.refl _ _).alloc (Nat.le_refl _) _).alloc (by simp) _⟩
      · obtain ⟨t, ht⟩ : ∃ t : Nat, dx = t := ⟨dx.toNat, by omega⟩
        subst ht
        have d2 : decide ((t : Int) < 0) = false := by simp
        by_cases h2 : t < thr.length
        · obtain ⟨s, hs⟩ : ∃ s, thr[t]? = some s := ⟨_, List.getElem?_eq_getElem h2⟩
          obtain ⟨b2, o2, rfl, hb2, hc2⟩ := HTR.out.str hs
          have HV := Lib.hid (siteText_at HD.out rfl hs)
          have hsl := HTS.out s (List.mem_of_getElem? hs)
          have d3 : decide (thr.length ≤ t) = false := by simp; omega
          have hil := itoa_len dc HOK.out.2.2
          clear hs
          go_enter Tryd.func49, Tryd.ntmps49
          go_wp2_with fail
          have B0 := (Blk.new w 70 #[c0, c1, c2, c3, .slice (some ⟨b2, o2, none⟩) thr.length ct, .slice (some ⟨b1, o1, none⟩) sts.length cs]).alloc (.cells #[.int .i64 (t : Int), .int .i64 dy, .int .i64 dc] 90)
          have B1 := Blk.new (w.alloc (.cells #[c0, c1, c2, c3, .slice (some ⟨b2, o2, none⟩) thr.length ct, .slice (some ⟨b1, o1, none⟩) sts.length cs] 70)) 90 #[.int .i64 (t : Int), .int .i64 dy, .int .i64 dc]
          simp only [World.size_alloc] at B1
          have hG : Below w.heap.size w ((w.alloc (.cells #[c0, c1, c2, c3, .slice (some ⟨b2, o2, none⟩) thr.length ct, .slice (some ⟨b1, o1, none⟩) sts.length cs] 70)).alloc (.cells #[.int .i64 (t : Int), .int .i64 dy, .int .i64 dc] 90)) := ((Below.refl _ _).alloc (Nat.le_refl _) _).alloc (by simp) _
          generalize (w.alloc (.cells #[c0, c1, c2, c3, .slice (some ⟨b2, o2, none⟩) thr.length ct, .slice (some ⟨b1, o1, none⟩) sts.length cs] 70)).alloc (.cells #[.int .i64 (t : Int), .int .i64 dy, .int .i64 dc] 90) = W at *
          have HG := Lib.hid hG
          have q4 := B0.cell 4
          have r0 := B1.cell 0
          have r2 := B1.cell 2
          simp only [List.getElem?_toArray, List.getElem?_cons_zero, List.getElem?_cons_succ] at q4 r0 r2
          have hz0 := B0.lt
          have hz1 := B1.lt
          have hz2 : b2 < W.heap.size := Nat.lt_of_lt_of_le hb2 hG.size
          have hc3 := (hG.cell (p := ⟨b2, o2 + t, none⟩) hb2).trans hc2
          have HSOF : Hid (∀ w', Below W.heap.size W w' → w'.cell? ⟨w.heap.size, 4, none⟩ = some (.slice (some ⟨b2, o2, none⟩) thr.length ct) ∧ w'.cell? ⟨w.heap.size + 1, 0, none⟩ = some (.int .i64 (t : Int)) ∧ w'.cell? ⟨w.heap.size + 1, 2, none⟩ = some (.int .i64 dc) ∧ w'.cell? ⟨b2, o2 + t, none⟩ = some (.string ⟨s.toArray⟩) ∧ Below W.heap.size W w') :=
            fun w' h => ⟨(h.cell (p := ⟨w.heap.size, 4, none⟩) hz0).trans q4, (h.cell (p := ⟨w.heap.size + 1, 0, none⟩) hz1).trans r0, (h.cell (p := ⟨w.heap.size + 1, 2, none⟩) hz1).trans r2, (h.cell (p := ⟨b2, o2 + t, none⟩) hz2).trans hc3, h⟩
          have f1 : (9223372036854775807 < s.length + 1) = False := eq_false (by omega)
          have f2 : (9223372036854775807 < s.length + 1 + (Lib.itoa dc).length) = False := eq_false (by omega)
          clear hG B0 B1 q4 r0 r2 hc2 hc3 hx1 hy1 hz1 d0 d1 d2 d3
          go_region_held3 (fun w' => w'.cell? ⟨w.heap.size, 4, none⟩ = some (.slice (some ⟨b2, o2, none⟩) thr.length ct) ∧ w'.cell? ⟨w.heap.size + 1, 0, none⟩ = some (.int .i64 (t : Int)) ∧ w'.cell? ⟨w.heap.size + 1, 2, none⟩ = some (.int .i64 dc) ∧ w'.cell? ⟨b2, o2 + t, none⟩ = some (.string ⟨s.toArray⟩) ∧ Below W.heap.size W w') (first | assumption | exact HSOF.out _ (Below.refl _ _).drew) (first
            | (go_at_call 48; refine (itoa_any dc _ HOK.out.2.2 (HT.out.keep HG.out.drew htl)).mono ?_; rintro e w3 ⟨rfl, hb3⟩; have hs3 := HSOF.out w3 (Below.trans (Below.refl _ _).drew hb3)))
          have HB3 := Lib.hid hs3.2.2.2.2
          clear hs3 hb3 HSOF f1 f2
          go_wp2_with fail
          go_ret
          exact ⟨by rw [HV.out, ← str_append3]; rfl, HG.out.trans (HB3.out.mono HG.out.size)⟩
        · have d3 : decide (thr.length ≤ t) = true := by simp; omega
          have HV := Lib.hid (siteText_tfar (thr := thr) HD.out rfl (by omega))
          go_enter Tryd.func49, Tryd.ntmps49
          go_wp2_with fail
          go_ret
          exact ⟨(ret_str HV.out).symm, ((Below.refl _ _).alloc (Nat.le_refl _) _).alloc (by simp) _⟩
    · have d1 : decide (sts.length ≤ k) = true := by simp; omega
      have HV := Lib.hid (siteText_far (thr := thr) (sts := sts) (k := k) (by omega))
      go_enter Tryd.func49, Tryd.ntmps49
      go_wp2_with fail
      go_ret
      exact ⟨(ret_str HV.out).symm, (Below.refl _ _).alloc (Nat.le_refl _) _⟩
end Go.Proofs.YtccpelfnkjckiaaDoor
