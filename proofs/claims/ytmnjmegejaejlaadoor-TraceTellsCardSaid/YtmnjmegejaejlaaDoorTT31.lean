/-
  WALK: interleavelaw16.large.
  PLAIN LAW: the text of numbers and its pieces.
-/
import Derived.Test.YtmnjmegejaejlaaDoorTT30
import Derived.Test.YtmnjmegejaejlaaDoorTT8
import Derived.Test.YtmnjmegejaejlaaDoorTT7
namespace Go.Proofs.YtmnjmegejaejlaaDoor
open Go.RowKit

def sumL (l : List Evn) : Nat := (l.map fun e => e.deps.length + e.frm.length).sum
theorem sumL_succ {l : List Evn} {k : Nat} {x : Evn} (h : l[k]? = some x) : sumL (l.take (k + 1)) = sumL (l.take k) + (x.deps.length + x.frm.length) := by
  unfold sumL; rw [take_succ_of h]; simp
theorem sumL_mem {l : List Evn} {e : Evn} (h : e ∈ l) : e.deps.length + e.frm.length ≤ sumL l := by
  unfold sumL
  induction l with
  | nil => cases h
  | cons x r ih =>
    rw [List.map_cons, List.sum_cons]
    rcases List.mem_cons.1 h with rfl | h
    · omega
    · have := ih h; omega
/-- A trace that is not large. -/
def Small (t : Trc) : Prop := t.cells.length + t.locks.length + t.conds.length + t.futs.length + t.thrs.length + t.sites.length + t.events.length + sumL t.events ≤ 300
def Fits (t : Trc) : Prop := (∀ i, i < 7 → rowN t i ≤ 17592186044416) ∧ ∀ e ∈ t.events, e.deps.length ≤ 17592186044416 ∧ e.frm.length ≤ 17592186044416
/-- What large answers. -/
def LargeRet (t : Trc) (e : Ending) : Prop := ∃ lg : Bool, e = .returned (.bool lg) ∧ (lg = false → Small t)
set_option maxRecDepth 100000 in
set_option maxHeartbeats 8000000 in
theorem large_any (t : Trc) (vv : Value) (w : World) (ht : IsTrc w vv t) (hf : Fits t) :
    Calls Tryd.prog 10 #[vv] w fun e w' => LargeRet t e ∧ Below w.heap.size w w' := by
  obtain ⟨v, ds, rfl, hv, hdl, hev, hok⟩ := ht
  obtain ⟨A0, c0, f0, ga0, ka0, ra0⟩ := hv 0 (by omega)
  have n0 : (t.cells.length : Int) ≤ 17592186044416 := by have h : t.cells.length ≤ _ := hf.1 0 (by omega); omega
  have z0 : (0 : Int) ≤ (t.cells.length : Int) := by omega
  obtain ⟨A1, c1, f1, ga1, ka1, ra1⟩ := hv 1 (by omega)
  have n1 : (t.locks.length : Int) ≤ 17592186044416 := by have h : t.locks.length ≤ _ := hf.1 1 (by omega); omega
  have z1 : (0 : Int) ≤ (t.locks.length : Int) := by omega
  obtain ⟨A2, c2, f2, ga2, ka2, ra2⟩ := hv 2 (by omega)
  have n2 : (t.conds.length : Int) ≤ 17592186044416 := by have h : t.conds.length ≤ _ := hf.1 2 (by omega); omega
  have z2 : (0 : Int) ≤ (t.conds.length : Int) := by omega
  obtain ⟨A3, c3, f3, ga3, ka3, ra3⟩ := hv 3 (by omega)
  have n3 : (t.futs.length : Int) ≤ 17592186044416 := by have h : t.futs.length ≤ _ := hf.1 3 (by omega); omega
  have z3 : (0 : Int) ≤ (t.futs.length : Int) := by omega
  obtain ⟨A4, c4, f4, ga4, ka4, ra4⟩ := hv 4 (by omega)
  have n4 : (t.thrs.length : Int) ≤ 17592186044416 := by have h : t.thrs.length ≤ _ := hf.1 4 (by omega); omega
  have z4 : (0 : Int) ≤ (t.thrs.length : Int) := by omega
  obtain ⟨A5, c5, f5, ga5, ka5, ra5⟩ := hv 5 (by omega)
  have n5 : (t.sites.length : Int) ≤ 17592186044416 := by have h : t.sites.length ≤ _ := hf.1 5 (by omega); omega
  have z5 : (0 : Int) ≤ (t.sites.length : Int) := by omega
  obtain ⟨A6, c6, f6, ga6, ka6, ra6⟩ := hv 6 (by omega)
  have n6 : (t.events.length : Int) ≤ 17592186044416 := by have h : t.events.length ≤ _ := hf.1 6 (by omega); omega
  have z6 : (0 : Int) ≤ (t.events.length : Int) := by omega
  rw [f0, f1, f2, f3, f4, f5, f6]
  have HR6 : Hid (Rd w A6 ((t.events.zip ds).flatMap evC)) := Lib.hid ra6
  show Calls Tryd.prog 10 #[.agg #[.slice A0 t.cells.length c0, .slice A1 t.locks.length c1, .slice A2 t.conds.length c2, .slice A3 t.futs.length c3, .slice A4 t.thrs.length c4, .slice A5 t.sites.length c5, .slice A6 t.events.length c6]] w _
  have hb1 : Below w.heap.size w (w.alloc (.cells #[.slice A0 t.cells.length c0, .slice A1 t.locks.length c1, .slice A2 t.conds.length c2, .slice A3 t.futs.length c3, .slice A4 t.thrs.length c4, .slice A5 t.sites.length c5, .slice A6 t.events.length c6] 31)) := (Below.refl _ _).alloc (Nat.le_refl _) _
  have HB1 := Lib.hid hb1
  have HX := Lib.hid (Blk.new w 31 #[.slice A0 t.cells.length c0, .slice A1 t.locks.length c1, .slice A2 t.conds.length c2, .slice A3 t.futs.length c3, .slice A4 t.thrs.length c4, .slice A5 t.sites.length c5, .slice A6 t.events.length c6])
  have HF := Lib.hid hf.2
  have HEV := Lib.hid hev
  have HDL := Lib.hid hdl
  clear hv hdl hev hok hb1 hf f0 ga0 ka0 ra0 f1 ga1 ka1 ra1 f2 ga2 ka2 ra2 f3 ga3 ka3 ra3 f4 ga4 ka4 ra4 f5 ga5 ka5 ra5 f6 ga6 ka6 ra6
  go_enter Tryd.func10, Tryd.ntmps10
  go_upto_region 1 with fail
  generalize w.alloc (.cells #[.slice A0 t.cells.length c0, .slice A1 t.locks.length c1, .slice A2 t.conds.length c2, .slice A3 t.futs.length c3, .slice A4 t.thrs.length c4, .slice A5 t.sites.length c5, .slice A6 t.events.length c6] 31) = W at *
  have p0 := HX.out.cell 0
  have p1 := HX.out.cell 1
  have p2 := HX.out.cell 2
  have p3 := HX.out.cell 3
  have p4 := HX.out.cell 4
  have p5 := HX.out.cell 5
  have p6 := HX.out.cell 6
  simp only [List.getElem?_toArray, List.getElem?_cons_zero, List.getElem?_cons_succ] at p0 p1 p2 p3 p4 p5 p6
  go_wp2_with fail
  go_loopw [3, 4] (fun nv iv wr => ∃ (k : Nat) (n : Int) (m : Nat), k ≤ t.events.length ∧ iv = .int .i64 (k : Int) ∧ nv = .int .i64 n ∧ Hid (n = (t.events.length : Int) + (t.cells.length : Int) + (t.locks.length : Int) + (t.conds.length : Int) + (t.futs.length : Int) + (t.thrs.length : Int) + (t.sites.length : Int) + (sumL (t.events.take k) : Int)) ∧ 0 ≤ n ∧ n ≤ 1000000000000000 ∧ wr = W.drewN m) (fun _ iv _ => t.events.length - (intOf iv).toNat)
  case atStart => exact ⟨0, _, 0, by omega, rfl, rfl, Lib.hid (by simp [sumL]), by omega, by omega, rfl⟩
  case round =>
    obtain ⟨k, n, m, hk, rfl, rfl, HS, hn0, hn1, rfl⟩ := hrel
    by_cases hlt : k < t.events.length
    · have lk : (k : Int) < (t.events.length : Int) := by omega
      by_cases hle : n ≤ 300
      · obtain ⟨x, hx⟩ : ∃ x, t.events[k]? = some x := ⟨_, List.getElem?_eq_getElem hlt⟩
        obtain ⟨⟨d1, d2⟩, hd⟩ : ∃ d, ds[k]? = some d := ⟨_, List.getElem?_eq_getElem (by have := HDL.out; omega)⟩
        obtain ⟨j1, j2⟩ := HEV.out k x _ hx hd
        obtain ⟨B1, e1, t1, -⟩ := j1
        obtain ⟨B2, e2, t2, -⟩ := j2
        simp only at t1 t2
        subst t1 t2
        have hz := HF.out x (List.mem_of_getElem? hx)
        have u1 : (x.deps.length : Int) ≤ 17592186044416 := by have := hz.1; omega
        have u2 : (x.frm.length : Int) ≤ 17592186044416 := by have := hz.2; omega
        have z1 : (t.events.zip ds)[k]? = some (x, .slice B1 x.deps.length e1, .slice B2 x.frm.length e2) := by rw [List.getElem?_zip_eq_some]; exact ⟨hx, hd⟩
        obtain ⟨b1, o1, rfl, hb1, g1⟩ := (HR6.out.keep HB1.out).flat (g := evC) (m := 7) (fun _ => rfl) (by omega) z1
        have y5 : W.cell? ⟨b1, o1 + k * 7 + 5, none⟩ = some (.slice B1 x.deps.length e1) := g1 5 _ rfl
        have y6 : W.cell? ⟨b1, o1 + k * 7 + 6, none⟩ = some (.slice B2 x.frm.length e2) := g1 6 _ rfl
        have HSU := Lib.hid (sumL_succ hx)
        have w1 : wrap64 (n + (x.deps.length : Int)) = n + (x.deps.length : Int) := by go_arith
        have w2 : wrap64 (n + (x.deps.length : Int) + (x.frm.length : Int)) = n + (x.deps.length : Int) + (x.frm.length : Int) := by go_arith
        have HB1L := hb1
        clear hx hd z1 g1 hb1 hz
        have HC : Hid (∀ w', Below W.heap.size W w' → w'.cell? ⟨w.heap.size, 6, none⟩ = some (.slice (some ⟨b1, o1, none⟩) t.events.length c6) ∧ w'.cell? ⟨b1, o1 + k * 7 + 5, none⟩ = some (.slice B1 x.deps.length e1) ∧ w'.cell? ⟨b1, o1 + k * 7 + 6, none⟩ = some (.slice B2 x.frm.length e2)) := Lib.hid (fun w' h => ⟨(h.cell (p := ⟨w.heap.size, 6, none⟩) HX.out.lt).trans p6, (h.cell (p := ⟨b1, o1 + k * 7 + 5, none⟩) HB1L).trans y5, (h.cell (p := ⟨b1, o1 + k * 7 + 6, none⟩) HB1L).trans y6⟩)
        have s0 := HC.out _ (bdrew (Below.refl W.heap.size W) m).drew
        clear HC HB1L
        go_upto_region 5 with fail
        go_region_held3 (fun w' => w'.cell? ⟨w.heap.size, 6, none⟩ = some (.slice (some ⟨b1, o1, none⟩) t.events.length c6) ∧ w'.cell? ⟨b1, o1 + k * 7 + 5, none⟩ = some (.slice B1 x.deps.length e1) ∧ w'.cell? ⟨b1, o1 + k * 7 + 6, none⟩ = some (.slice B2 x.frm.length e2)) (with_reducible assumption) (fail)
        go_wp2_with fail
        go_roundw
        case rel => exact ⟨k + 1, n + (x.deps.length : Int) + (x.frm.length : Int), _, by omega, by go_num, by refine congrArg _ ?_; simp only [IntKind.wrap_i64]; omega, Lib.hid (by have h1 := HS.out; have h2 := HSU.out; rw [h2]; omega), by omega, by omega, rfl⟩
        case measure => simp [intOf]; omega
      · go_wp2_with fail
        go_ret
        exact ⟨⟨true, by first | (simp; done) | (simp; omega), fun h => by cases h⟩, bdrew HB1.out _⟩
    · have lk : ¬ ((k : Int) < (t.events.length : Int)) := by omega
      obtain rfl : k = t.events.length := by omega
      go_wp2_with fail
      go_ret
      refine ⟨⟨_, rfl, fun h => ?_⟩, bdrew HB1.out _⟩
      have h1 := HS.out
      rw [List.take_length] at h1
      simp only [decide_eq_false_iff_not] at h
      unfold Small
      omega
end Go.Proofs.YtmnjmegejaejlaaDoor

namespace Go.Proofs.YtmnjmegejaejlaaDoor

theorem digits_all (u : Nat) : ∀ c ∈ Lib.decDigits u, 48 ≤ c.toNat ∧ c.toNat ≤ 57 := by
  induction u using Nat.strongRecOn with
  | ind u ih =>
    by_cases h : u < 10
    · rw [Lib.decDigits_one h]
      intro c hc
      rw [List.mem_singleton] at hc
      subst hc
      rw [digit_toNat h]; omega
    · rw [Lib.decDigits, dif_neg h]
      intro c hc
      rcases List.mem_append.1 hc with hc | hc
      · exact ih (u / 10) (by omega) c hc
      · rw [List.mem_singleton] at hc
        subst hc
        rw [digit_toNat (by omega)]; omega
theorem itoa_all (v : Int) : ∀ c ∈ Lib.itoa v, 45 ≤ c.toNat := by
  intro c hc
  unfold Lib.itoa at hc
  split at hc
  · rcases List.mem_cons.1 hc with rfl | hc
    · decide
    · have := (digits_all _ c hc).1; omega
  · have := (digits_all _ c hc).1; omega
theorem itoa_not (v : Int) {b : UInt8} (hb : b.toNat < 45) : b ∉ Lib.itoa v := fun h => by
  have := itoa_all v b h; omega
theorem nums_not (l : List Int) {b : UInt8} (hb : b.toNat < 45) (h32 : b ≠ 32) : b ∉ numsText l := by
  induction l with
  | nil => simp [numsText]
  | cons x r ih =>
    unfold numsText at ih ⊢
    rw [List.flatMap_cons]
    intro h
    rcases List.mem_append.1 h with h | h
    · rcases List.mem_cons.1 h with h | h
      · exact h32 h
      · exact itoa_not x hb h
    · exact ih h
theorem pieces_nums (l : List Int) : ∀ word : List UInt8, (32 : UInt8) ∉ word → pieces 32 (word ++ numsText l) = word :: l.map Lib.itoa := by
  induction l with
  | nil => intro word h; simp [numsText, pieces_none h]
  | cons x r ih =>
    intro word h
    have e : word ++ numsText (x :: r) = word ++ 32 :: (Lib.itoa x ++ numsText r) := by simp [numsText]
    rw [e, pieces_app _ h, ih (Lib.itoa x) (itoa_not x (by decide))]
    rfl
theorem mapM_itoa (l : List Int) (h : ∀ x ∈ l, I64 x) : (l.map Lib.itoa).mapM canonI = some l := by
  induction l with
  | nil => rfl
  | cons x r ih =>
    have h1 := h x (by simp)
    rw [List.map_cons, List.mapM_cons, canonI_itoa x h1.1 (by have := h1.2; omega), ih fun y hy => h y (by simp [hy])]
    rfl
theorem numsW_text (word : List UInt8) (l : List Int) (h : ∀ x ∈ l, I64 x) : numsW word l.length (word :: l.map Lib.itoa) = some l := by
  show (if word = word ∧ (l.map Lib.itoa).length = l.length then (l.map Lib.itoa).mapM canonI else none) = some l
  rw [if_pos ⟨rfl, by simp⟩, mapM_itoa l h]
theorem line_split (word : List UInt8) (l : List Int) (rest : List UInt8) : lineText word l ++ rest = (word ++ numsText l) ++ 10 :: rest := by simp [lineText]
theorem line_not (word : List UInt8) (l : List Int) (h : (10 : UInt8) ∉ word) : (10 : UInt8) ∉ word ++ numsText l := by
  intro hc
  rcases List.mem_append.1 hc with hc | hc
  · exact h hc
  · exact nums_not l (by decide) (by decide) hc
end Go.Proofs.YtmnjmegejaejlaaDoor
