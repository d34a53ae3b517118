/-
  WALK: report.Less and the reference's LessReport.
-/
import Derived.Test.YtccpelfnkjckiaaDoorRepWords
import Derived.Deep.RegionHeld3
namespace Go.Proofs.YtccpelfnkjckiaaDoor
open Go.RowKit

theorem cmp3_new (w : World) (t : TypeId) (a b : Rep) : Ints (w.alloc (.cells #[.int .i64 (Lib.compareInt b.score a.score), .int .i64 (Lib.compareInt a.kind b.kind), .int .i64 (cmpL a.sites b.sites)] t)) (.slice (some ⟨w.heap.size, 0, none⟩) 3 3) [Lib.compareInt b.score a.score, Lib.compareInt a.kind b.kind, cmpL a.sites b.sites] :=
  ints_newR w t [_, _, _] (fun x hx => by simp only [List.mem_cons, List.not_mem_nil, or_false] at hx; rcases hx with rfl | rfl | rfl <;> first | exact compareInt_i64 _ _ | exact cmpL_i64 _ _) (by simp [maxLen])

set_option maxRecDepth 100000 in
set_option maxHeartbeats 2000000 in
theorem less_any (av bv : Value) (a b : Rep) (w : World) (ha : IsRep w av a) (hb : IsRep w bv b) :
    Calls Tryd.prog 23 #[av, bv] w fun e w' => e = .returned (.bool (lessR a b)) ∧ Grew w w' := by
  obtain ⟨s1, t1, rfl, hs1, -, -⟩ := ha
  obtain ⟨s2, t2, rfl, hs2, -, -⟩ := hb
  have HS1 := Lib.hid hs1
  have HS2 := Lib.hid hs2
  obtain ⟨A1, c1, rfl, -, -, -, -⟩ := hs1
  obtain ⟨A2, c2, rfl, -, -, -, -⟩ := hs2
  go_enter Tryd.func23, Tryd.ntmps23
  go_wp2_with fail
  have B0 := (Blk.new w 61 #[.int .i64 a.kind, .slice A1 a.sites.length c1, t1, .int .i64 a.count, .int .i64 a.best, .int .i64 a.score]).alloc (.cells #[.int .i64 b.kind, .slice A2 b.sites.length c2, t2, .int .i64 b.count, .int .i64 b.best, .int .i64 b.score] 61)
  have B1 := Blk.new (w.alloc (.cells #[.int .i64 a.kind, .slice A1 a.sites.length c1, t1, .int .i64 a.count, .int .i64 a.best, .int .i64 a.score] 61)) 61 #[.int .i64 b.kind, .slice A2 b.sites.length c2, t2, .int .i64 b.count, .int .i64 b.best, .int .i64 b.score]
  simp only [World.size_alloc] at B1
  have hG : Grew w ((w.alloc (.cells #[.int .i64 a.kind, .slice A1 a.sites.length c1, t1, .int .i64 a.count, .int .i64 a.best, .int .i64 a.score] 61)).alloc (.cells #[.int .i64 b.kind, .slice A2 b.sites.length c2, t2, .int .i64 b.count, .int .i64 b.best, .int .i64 b.score] 61)) := ((Grew.refl _).alloc _).alloc _
  generalize (w.alloc (.cells #[.int .i64 a.kind, .slice A1 a.sites.length c1, t1, .int .i64 a.count, .int .i64 a.best, .int .i64 a.score] 61)).alloc (.cells #[.int .i64 b.kind, .slice A2 b.sites.length c2, t2, .int .i64 b.count, .int .i64 b.best, .int .i64 b.score] 61) = W at *
  have HG := Lib.hid hG
  have q0 := B0.cell 0
  have q1 := B0.cell 1
  have q5 := B0.cell 5
  have r0 := B1.cell 0
  have r1 := B1.cell 1
  have r5 := B1.cell 5
  simp only [List.getElem?_toArray, List.getElem?_cons_zero, List.getElem?_cons_succ] at q0 q1 q5 r0 r1 r5
  have hz0 := B0.lt
  have hz1 := B1.lt
  have HSOF : Hid (∀ w', Grew W w' → w'.cell? ⟨w.heap.size, 0, none⟩ = some (.int .i64 a.kind) ∧ w'.cell? ⟨w.heap.size, 1, none⟩ = some (.slice A1 a.sites.length c1) ∧ w'.cell? ⟨w.heap.size, 5, none⟩ = some (.int .i64 a.score) ∧ w'.cell? ⟨w.heap.size + 1, 0, none⟩ = some (.int .i64 b.kind) ∧ w'.cell? ⟨w.heap.size + 1, 1, none⟩ = some (.slice A2 b.sites.length c2) ∧ w'.cell? ⟨w.heap.size + 1, 5, none⟩ = some (.int .i64 b.score) ∧ Grew W w') :=
    fun w' h => ⟨(h.below.cell (p := ⟨w.heap.size, 0, none⟩) hz0).trans q0, (h.below.cell (p := ⟨w.heap.size, 1, none⟩) hz0).trans q1, (h.below.cell (p := ⟨w.heap.size, 5, none⟩) hz0).trans q5, (h.below.cell (p := ⟨w.heap.size + 1, 0, none⟩) hz1).trans r0, (h.below.cell (p := ⟨w.heap.size + 1, 1, none⟩) hz1).trans r1, (h.below.cell (p := ⟨w.heap.size + 1, 5, none⟩) hz1).trans r5, h⟩
  have HI1 := Lib.hid (HS1.out.keep HG.out.below)
  have HI2 := Lib.hid (HS2.out.keep HG.out.below)
  clear hG B0 B1 q0 q1 q5 r0 r1 r5 HS1 HS2
  go_region_held3 (fun w' => w'.cell? ⟨w.heap.size, 0, none⟩ = some (.int .i64 a.kind) ∧ w'.cell? ⟨w.heap.size, 1, none⟩ = some (.slice A1 a.sites.length c1) ∧ w'.cell? ⟨w.heap.size, 5, none⟩ = some (.int .i64 a.score) ∧ w'.cell? ⟨w.heap.size + 1, 0, none⟩ = some (.int .i64 b.kind) ∧ w'.cell? ⟨w.heap.size + 1, 1, none⟩ = some (.slice A2 b.sites.length c2) ∧ w'.cell? ⟨w.heap.size + 1, 5, none⟩ = some (.int .i64 b.score) ∧ Grew W w') (first | assumption | exact HSOF.out _ (Grew.refl _).drew | exact HSOF.out _ ((Grew.refl _).alloc _).drew) (first
    | (go_at_call 39; refine (Tryd.cmp_Compare_int _ _ _).mono ?_; rintro e w3 ⟨rfl, rfl⟩)
    | (go_at_call 40; refine (scompare_any _ _ _ _ _ (HI1.out.keep (Below.refl _ _).drew) (HI2.out.keep (Below.refl _ _).drew)).mono ?_; rintro e w3 ⟨rfl, rfl⟩)
    | (go_at_call 38; refine (or_any _ _ _ ((cmp3_new W 3 a b).keep (Below.refl _ _).drew)).mono ?_; rintro e w3 ⟨rfl, rfl⟩))
  go_wp2_with fail
  go_ret
  exact ⟨rfl, HG.out.trans ((Grew.refl _).alloc _).drew⟩

theorem compareInt_ne {x y : Int} (h : x ≠ y) : Lib.compareInt x y ≠ 0 := by
  unfold Lib.compareInt
  by_cases h1 : x < y
  · simp [h1]
  · have h2 : y < x := by omega
    simp [h1, h2]
theorem compareInt_neg (x y : Int) : (Lib.compareInt x y < 0) = (x < y) := by
  unfold Lib.compareInt
  by_cases h1 : x < y
  · simp [h1]
  · by_cases h2 : y < x <;> simp [h1, h2]
theorem lessR_score {a b : Rep} (h : a.score ≠ b.score) : lessR a b = decide (b.score < a.score) := by
  unfold lessR cmpR orL
  rw [if_neg (compareInt_ne (Ne.symm h))]; simp only [compareInt_neg]
theorem lessR_kind {a b : Rep} (h : a.score = b.score) (h2 : a.kind ≠ b.kind) : lessR a b = decide (a.kind < b.kind) := by
  unfold lessR cmpR orL
  rw [h, compareInt_self, if_pos rfl, orL, if_neg (compareInt_ne h2)]; simp only [compareInt_neg]
theorem lessR_sites {a b : Rep} (h : a.score = b.score) (h2 : a.kind = b.kind) : lessR a b = decide (cmpL a.sites b.sites < 0) := by
  unfold lessR cmpR
  rw [h, h2, orL, compareInt_self, if_pos rfl, orL, compareInt_self, if_pos rfl, orL]
  by_cases h : cmpL a.sites b.sites = 0
  · rw [if_pos h, h]; rfl
  · rw [if_neg h]

set_option maxRecDepth 100000 in
set_option maxHeartbeats 2000000 in
theorem rless_any (av bv : Value) (a b : Rep) (w : World) (ha : IsRep w av a) (hb : IsRep w bv b) :
    Calls Tryd.prog 24 #[av, bv] w fun e w' => e = .returned (.bool (lessR a b)) ∧ Grew w w' := by
  obtain ⟨s1, t1, rfl, hs1, -, -⟩ := ha
  obtain ⟨s2, t2, rfl, hs2, -, -⟩ := hb
  have HS1 := Lib.hid hs1
  have HS2 := Lib.hid hs2
  obtain ⟨A1, c1, rfl, -, -, -, -⟩ := hs1
  obtain ⟨A2, c2, rfl, -, -, -, -⟩ := hs2
  have HG : Hid (Grew w ((w.alloc (.cells #[.int .i64 a.kind, .slice A1 a.sites.length c1, t1, .int .i64 a.count, .int .i64 a.best, .int .i64 a.score] 61)).alloc (.cells #[.int .i64 b.kind, .slice A2 b.sites.length c2, t2, .int .i64 b.count, .int .i64 b.best, .int .i64 b.score] 61))) := Lib.hid (((Grew.refl _).alloc _).alloc _)
  obtain ⟨k1, e1⟩ : ∃ k, a.kind = k := ⟨_, rfl⟩
  obtain ⟨k2, e2⟩ : ∃ k, b.kind = k := ⟨_, rfl⟩
  obtain ⟨x1, e3⟩ : ∃ k, a.score = k := ⟨_, rfl⟩
  obtain ⟨x2, e4⟩ : ∃ k, b.score = k := ⟨_, rfl⟩
  rw [e1, e2, e3, e4] at HG
  have HE := Lib.hid (And.intro e1 (And.intro e2 (And.intro e3 e4)))
  rw [e1, e2, e3, e4]
  clear e1 e2 e3 e4
  by_cases hx : x1 = x2
  · subst hx
    by_cases hk : k1 = k2
    · subst hk
      have HL := Lib.hid (lessR_sites (a := a) (b := b) (by rw [HE.out.2.2.1, HE.out.2.2.2]) (by rw [HE.out.1, HE.out.2.1]))
      go_enter Tryd.func24, Tryd.ntmps24
      go_wp2_with fail
      refine (rcompare_any _ _ _ _ _ (HS1.out.keep HG.out.below) (HS2.out.keep HG.out.below)).mono ?_
      rintro e w' ⟨rfl, n, rfl⟩
      go_wp2_with fail
      go_ret
      exact ⟨ret_bool HL.out.symm, HG.out.drewN n⟩
    · have hne : (k1 != k2) = true := by simpa using hk
      have HL := Lib.hid (lessR_kind (a := a) (b := b) (by rw [HE.out.2.2.1, HE.out.2.2.2]) (by rw [HE.out.1, HE.out.2.1]; exact hk))
      clear hk
      go_enter Tryd.func24, Tryd.ntmps24
      go_wp2_with fail
      go_ret
      exact ⟨ret_bool (by rw [HL.out, HE.out.1, HE.out.2.1]), HG.out⟩
  · have hne : (x1 != x2) = true := by simpa using hx
    have HL := Lib.hid (lessR_score (a := a) (b := b) (by rw [HE.out.2.2.1, HE.out.2.2.2]; exact hx))
    clear hx
    go_enter Tryd.func24, Tryd.ntmps24
    go_wp2_with fail
    go_ret
    exact ⟨ret_bool (by rw [HL.out, HE.out.2.2.1, HE.out.2.2.2]), HG.out⟩
end Go.Proofs.YtccpelfnkjckiaaDoor
