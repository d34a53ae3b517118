/-
  WALK: formula.Parse.
-/
import Derived.Test.YtfffalfnjficaaaDoorRClose
import Derived.Test.YtfffalfnjficaaaDoorRFormula
import Derived.Test.YtfffalfnjficaaaDoorValid
import Derived.Test.YtfffalfnjficaaaDoorParseRet
namespace Go.Proofs.YtfffalfnjficaaaDoor
open Go.RowKit

def set6 (w : World) (B : Nat) (v0 v1 v2 v3 v4 v5 : Value) : World := ((set4 w B v0 v1 v2 v3).setCell ⟨B + 1, 0, none⟩ v4).setCell ⟨B + 1 + 1, 0, none⟩ v5
theorem six {w w8 : World} {B : Nat} {tF tE tN : TypeId} {a0 a1 a2 a3 a4 a5 : Value} (F8 : Blk w8 B tF #[a0, a1, a2, a3]) (E8 : Blk w8 (B + 1) tE #[a4]) (N8 : Blk w8 (B + 1 + 1) tN #[a5]) (hb : Below B w w8) (v0 v1 v2 v3 v4 v5 : Value) :
    ((set6 w8 B v0 v1 v2 v3 v4 v5).cell? ⟨B, 0, none⟩ = some v0 ∧ (set6 w8 B v0 v1 v2 v3 v4 v5).cell? ⟨B, 1, none⟩ = some v1 ∧ (set6 w8 B v0 v1 v2 v3 v4 v5).cell? ⟨B, 2, none⟩ = some v2 ∧ (set6 w8 B v0 v1 v2 v3 v4 v5).cell? ⟨B, 3, none⟩ = some v3 ∧ (set6 w8 B v0 v1 v2 v3 v4 v5).cell? ⟨B + 1, 0, none⟩ = some v4 ∧ (set6 w8 B v0 v1 v2 v3 v4 v5).cell? ⟨B + 1 + 1, 0, none⟩ = some v5) ∧
    Below B w (set6 w8 B v0 v1 v2 v3 v4 v5) ∧ (set6 w8 B v0 v1 v2 v3 v4 v5).heap.size = w8.heap.size ∧ ∀ k, B + 3 ≤ k → (set6 w8 B v0 v1 v2 v3 v4 v5).heap[k]? = w8.heap[k]? := by
  have F9 : Blk (set6 w8 B v0 v1 v2 v3 v4 v5) B tF #[v0, v1, v2, v3] := ((blk_set4 F8 v0 v1 v2 v3).far (p := ⟨B + 1, 0, none⟩) (by simp) v4).far (p := ⟨B + 1 + 1, 0, none⟩) (by show B ≠ B + 1 + 1; omega) v5
  have E9 : Blk (set6 w8 B v0 v1 v2 v3 v4 v5) (B + 1) tE #[v4] := ((far4 E8 (show B ≠ B + 1 by omega) v0 v1 v2 v3).set_ 0 v4).far (p := ⟨B + 1 + 1, 0, none⟩) (by simp) v5
  have N9 : Blk (set6 w8 B v0 v1 v2 v3 v4 v5) (B + 1 + 1) tN #[v5] := ((far4 N8 (show B ≠ B + 1 + 1 by omega) v0 v1 v2 v3).far (p := ⟨B + 1, 0, none⟩) (by simp) v4).set_ 0 v5
  refine ⟨⟨F9.cell 0, F9.cell 1, F9.cell 2, F9.cell 3, E9.cell 0, N9.cell 0⟩, ((below4 hb v0 v1 v2 v3).setCell (p := ⟨B + 1, 0, none⟩) (by show B ≤ B + 1; omega) v4).setCell (p := ⟨B + 1 + 1, 0, none⟩) (by show B ≤ B + 1 + 1; omega) v5, by simp [set6, set4], fun k hk => ?_⟩
  exact (Below.heap_setCell _ ⟨B + 1 + 1, 0, none⟩ v5 k (by show k ≠ B + 1 + 1; omega)).trans ((Below.heap_setCell _ ⟨B + 1, 0, none⟩ v4 k (by show k ≠ B + 1; omega)).trans ((Below.heap_setCell _ ⟨B, 3, none⟩ v3 k (by show k ≠ B; omega)).trans ((Below.heap_setCell _ ⟨B, 2, none⟩ v2 k (by show k ≠ B; omega)).trans ((Below.heap_setCell _ ⟨B, 1, none⟩ v1 k (by show k ≠ B; omega)).trans (Below.heap_setCell _ ⟨B, 0, none⟩ v0 k (by show k ≠ B; omega))))))
set_option maxRecDepth 100000 in
set_option maxHeartbeats 8000000 in
theorem parse_any (s : List UInt8) (w : World) (hl : s.length ≤ 1000000) (hp : PL w) :
    Calls Tryd.prog 8 #[.string ⟨s.toArray⟩] w (ParseRet w s) := by
  have hmf : ∀ (fn : Fn) (first cap : Array Value) (w : World), (Instr.makeFunc fn first cap).run Tryd.prog w = .ok (.func fn first cap) w := fun _ _ _ _ => rfl
  have hG : GB (w.heap.size + 1 + 1 + 1) := by obtain ⟨a0, a1, a2, a3⟩ := hp.gb; exact ⟨by omega, by omega, by omega, by omega⟩
  have HG := Lib.hid hG
  have hF := (((((Blk.new w 26 #[.int .i64 0, .int .i64 0, .slice none 0 0, .slice none 0 0]).alloc (.cells #[.int .i64 0] 27)).alloc (.cells #[.int .i64 0] 3)).alloc (.cells #[.string ⟨s.toArray⟩, .int .i64 0] 57)).alloc (.cells #[.pointer (some ⟨w.heap.size + 1 + 1 + 1, 0, none⟩)] 55))
  have hE := ((((Blk.new (w.alloc (.cells #[.int .i64 0, .int .i64 0, .slice none 0 0, .slice none 0 0] 26)) 27 #[.int .i64 0])).alloc (.cells #[.int .i64 0] 3)).alloc (.cells #[.string ⟨s.toArray⟩, .int .i64 0] 57)).alloc (.cells #[.pointer (some ⟨w.heap.size + 1 + 1 + 1, 0, none⟩)] 55)
  have hN := (((Blk.new ((w.alloc (.cells #[.int .i64 0, .int .i64 0, .slice none 0 0, .slice none 0 0] 26)).alloc (.cells #[.int .i64 0] 27)) 3 #[.int .i64 0])).alloc (.cells #[.string ⟨s.toArray⟩, .int .i64 0] 57)).alloc (.cells #[.pointer (some ⟨w.heap.size + 1 + 1 + 1, 0, none⟩)] 55)
  have hR := (Blk.new (((w.alloc (.cells #[.int .i64 0, .int .i64 0, .slice none 0 0, .slice none 0 0] 26)).alloc (.cells #[.int .i64 0] 27)).alloc (.cells #[.int .i64 0] 3)) 57 #[.string ⟨s.toArray⟩, .int .i64 0]).alloc (.cells #[.pointer (some ⟨w.heap.size + 1 + 1 + 1, 0, none⟩)] 55)
  have hT := Blk.new ((((w.alloc (.cells #[.int .i64 0, .int .i64 0, .slice none 0 0, .slice none 0 0] 26)).alloc (.cells #[.int .i64 0] 27)).alloc (.cells #[.int .i64 0] 3)).alloc (.cells #[.string ⟨s.toArray⟩, .int .i64 0] 57)) 55 #[.pointer (some ⟨w.heap.size + 1 + 1 + 1, 0, none⟩)]
  rw [show ∀ (a : World) (o : Obj), (a.alloc o).heap.size = a.heap.size + 1 from fun a o => by simp] at hE
  simp only [show ∀ (a : World) (o : Obj), (a.alloc o).heap.size = a.heap.size + 1 from fun a o => by simp] at hN hR hT
  have hb : Below w.heap.size w (((((w.alloc (.cells #[.int .i64 0, .int .i64 0, .slice none 0 0, .slice none 0 0] 26)).alloc (.cells #[.int .i64 0] 27)).alloc (.cells #[.int .i64 0] 3)).alloc (.cells #[.string ⟨s.toArray⟩, .int .i64 0] 57)).alloc (.cells #[.pointer (some ⟨w.heap.size + 1 + 1 + 1, 0, none⟩)] 55)) := by go_grown
  have HP := Lib.hid (hp.below hb)
  clear hp hG
  go_enter_defers Tryd.func8, Tryd.ntmps8
  go_wp2_with fail
  generalize ((((w.alloc (.cells #[.int .i64 0, .int .i64 0, .slice none 0 0, .slice none 0 0] 26)).alloc (.cells #[.int .i64 0] 27)).alloc (.cells #[.int .i64 0] 3)).alloc (.cells #[.string ⟨s.toArray⟩, .int .i64 0] 57)).alloc (.cells #[.pointer (some ⟨w.heap.size + 1 + 1 + 1, 0, none⟩)] 55) = W5 at *
  have HF := Lib.hid hF
  have HE := Lib.hid hE
  have HN := Lib.hid hN
  have HT := Lib.hid hT
  have HB := Lib.hid hb
  refine (rformula_any (w.heap.size + 1 + 1 + 1) s W5 hR hl HP.out HG.out).mono ?_
  clear hF hE hN hT hb hR
  rintro e w6 ⟨r, hpr, hgr, hres⟩
  have HPR := Lib.hid hpr
  have F6 := HF.out.grown hgr (by intro e; injection e with e; omega)
  have E6 := HE.out.grown hgr (by intro e; injection e with e; omega)
  have N6 := HN.out.grown hgr (by intro e; injection e with e; omega)
  have T6 := HT.out.grown hgr (by intro e; injection e with e; omega)
  have HB6 : Hid (Below w.heap.size w w6) := Lib.hid (HB.out.grown hgr HB.out.size (fun k e => by injection e with e; omega))
  cases r with
  | bad k =>
    obtain ⟨rfl, rest, hr⟩ := hres
    have hcl := close_panicking w.heap.size rest k (.agg #[]) 103 [] w6 _ _ _ _ _ _ F6 E6 N6 T6 hr
    have U := blk_set4 F6 (.int .i64 0) (.int .i64 0) (.slice none 0 0) (.slice none 0 0)
    have HCL := Lib.hid hcl
    have HU := Lib.hid ((U.far (p := ⟨w.heap.size + 1, 0, none⟩) (by simp) (.int .i64 3)).far (p := ⟨w.heap.size + 2, 0, none⟩) (by simp) (.int .i64 (k : Int)))
    have HE9 := Lib.hid ((far4 E6 (show w.heap.size ≠ w.heap.size + 1 by omega) (.int .i64 0) (.int .i64 0) (.slice none 0 0) (.slice none 0 0)).set_ 0 (.int .i64 3) |>.far (p := ⟨w.heap.size + 2, 0, none⟩) (by simp) (.int .i64 (k : Int)))
    have HN9 := Lib.hid (((far4 N6 (show w.heap.size ≠ w.heap.size + 1 + 1 by omega) (.int .i64 0) (.int .i64 0) (.slice none 0 0) (.slice none 0 0)).far (p := ⟨w.heap.size + 1, 0, none⟩) (by simp) (.int .i64 3)).set_ 0 (.int .i64 (k : Int)))
    have HB9 := Lib.hid (((below4 HB6.out (.int .i64 0) (.int .i64 0) (.slice none 0 0) (.slice none 0 0)).setCell (p := ⟨w.heap.size + 1, 0, none⟩) (by show w.heap.size ≤ w.heap.size + 1; omega) (.int .i64 3)).setCell (p := ⟨w.heap.size + 2, 0, none⟩) (by show w.heap.size ≤ w.heap.size + 2; omega) (.int .i64 (k : Int)))
    clear hcl U F6 E6 N6 T6 hr
    unfold wrongL
    go_wp2_with fail
    refine leaves_cons (f := 23) (args := #[.pointer (some ⟨w.heap.size + 4, 0, none⟩), .pointer (some ⟨w.heap.size, 0, none⟩), .pointer (some ⟨w.heap.size + 1, 0, none⟩), .pointer (some ⟨w.heap.size + 2, 0, none⟩)]) (by simp) (by simp [go_sem]) ?_
    refine HCL.out.mono ?_
    rintro e u' w'' ⟨rfl, rfl, rfl⟩
    clear HCL
    generalize ((set4 w6 w.heap.size (.int .i64 0) (.int .i64 0) (.slice none 0 0) (.slice none 0 0)).setCell ⟨w.heap.size + 1, 0, none⟩ (.int .i64 3)).setCell ⟨w.heap.size + 2, 0, none⟩ (.int .i64 (k : Int)) = W9 at *
    have u0 := HU.out.cell 0
    have u1 := HU.out.cell 1
    have u2 := HU.out.cell 2
    have u3 := HU.out.cell 3
    have u4 := HE9.out.cell 0
    have u5 := HN9.out.cell 0
    simp only [List.getElem?_toArray, List.getElem?_cons_zero, List.getElem?_cons_succ, List.setIfInBounds_toArray, List.set_cons_zero] at u0 u1 u2 u3 u4 u5
    simp [Leaves, settle, results, Tryd.results8, go_sem, u0, u1, u2, u3, u4, u5]
    exact ⟨HB9.out, .inr (.inr ⟨k, HPR.out, rfl⟩)⟩
  | ok f =>
    obtain ⟨Aa, ca, Ac, cc, rfl, hfk⟩ := hres
    have HFK := Lib.hid hfk
    have c0 := F6.cell 0
    have c1 := F6.cell 1
    have c2 := F6.cell 2
    have c3 := F6.cell 3
    have z0 := F6.frozen 0
    have z1 := F6.frozen 1
    have z2 := F6.frozen 2
    have z3 := F6.frozen 3
    simp only [List.getElem?_toArray, List.getElem?_cons_zero, List.getElem?_cons_succ] at c0 c1 c2 c3
    have U := blk_set4 F6 (.int .i64 f.ints) (.int .i64 f.bools) (.slice Aa f.atoms.length ca) (.slice Ac f.clauses.length cc)
    have hE7 := far4 E6 (show w.heap.size ≠ w.heap.size + 1 by omega) (.int .i64 f.ints) (.int .i64 f.bools) (.slice Aa f.atoms.length ca) (.slice Ac f.clauses.length cc)
    have hN7 := far4 N6 (show w.heap.size ≠ w.heap.size + 1 + 1 by omega) (.int .i64 f.ints) (.int .i64 f.bools) (.slice Aa f.atoms.length ca) (.slice Ac f.clauses.length cc)
    have hT7 := far4 T6 (show w.heap.size ≠ w.heap.size + 1 + 1 + 1 + 1 by omega) (.int .i64 f.ints) (.int .i64 f.bools) (.slice Aa f.atoms.length ca) (.slice Ac f.clauses.length cc)
    have hG7 := grown_set4 w6 w.heap.size (.int .i64 f.ints) (.int .i64 f.bools) (.slice Aa f.atoms.length ca) (.slice Ac f.clauses.length cc)
    unfold set4 at U hE7 hN7 hT7 hG7
    have HU7 := Lib.hid U
    have HE7 := Lib.hid hE7
    have HN7 := Lib.hid hN7
    have HG7 := Lib.hid hG7
    clear U hE7 hN7 hT7 hG7 hfk F6 E6 N6 T6
    go_wp2_with fail
    clear c0 c1 c2 c3 z0 z1 z2 z3
    generalize (((w6.setCell ⟨w.heap.size, 0, none⟩ (.int .i64 f.ints)).setCell ⟨w.heap.size, 1, none⟩ (.int .i64 f.bools)).setCell ⟨w.heap.size, 2, none⟩ (.slice Aa f.atoms.length ca)).setCell ⟨w.heap.size, 3, none⟩ (.slice Ac f.clauses.length cc) = W7 at *
    have hlt := HT.out.lt
    have hz6 : W5.heap.size ≤ w6.heap.size := hgr.size
    have HIF := Lib.hid (HFK.out W7 HG7.out.size (fun k h1 h2 => HG7.out.block k h2 (by intro e; injection e with e; omega)))
    refine (fvalid_any f W7 _ HIF.out).mono ?_
    rintro e w8 ⟨rfl, hb8⟩
    have hz8 := hb8.size
    have F8 := HU7.out.keep hb8
    have E8 := HE7.out.keep hb8
    have N8 := HN7.out.keep hb8
    have HB8 : Hid (Below w.heap.size w w8) := Lib.hid ((HB6.out.grown HG7.out HB6.out.size (fun k e => by injection e with e; omega)).trans (hb8.mono (by have := HG7.out.size; have := HB6.out.size; omega)))
    have c0 := F8.cell 0
    have c1 := F8.cell 1
    have c2 := F8.cell 2
    have c3 := F8.cell 3
    have z0 := F8.frozen 0
    have z1 := F8.frozen 1
    have z2 := F8.frozen 2
    have z3 := F8.frozen 3
    have c4 := E8.cell 0
    have z4 := E8.frozen 0
    have c5 := N8.cell 0
    have z5 := N8.frozen 0
    simp only [List.getElem?_toArray, List.getElem?_cons_zero, List.getElem?_cons_succ] at c0 c1 c2 c3 c4 c5
    have HFK8 : Hid (∀ w2 : World, w8.heap.size ≤ w2.heap.size → (∀ k, W5.heap.size ≤ k → k < w8.heap.size → w2.heap[k]? = w8.heap[k]?) → IsForm w2 (.agg #[.int .i64 f.ints, .int .i64 f.bools, .slice Aa f.atoms.length ca, .slice Ac f.clauses.length cc]) f) := Lib.hid (fun w2 h1 h2 => HFK.out w2 (by have := HG7.out.size; omega) (fun k h3 h4 => by
      have := HG7.out.size
      exact (h2 k h3 (by omega)).trans ((hb8.block k (by omega)).trans (HG7.out.block k h4 (by intro e; injection e with e; omega)))))
    by_cases hv : validF f = 0
    · have HV := Lib.hid hv
      rw [hv]
      clear hv
      have H6 := Lib.hid (six F8 E8 N8 HB8.out (.int .i64 f.ints) (.int .i64 f.bools) (.slice Aa f.atoms.length ca) (.slice Ac f.clauses.length cc) (.int .i64 0) (.int .i64 0))
      unfold set6 set4 at H6
      clear F8 E8 N8
      go_wp2_with fail
      refine leaves_cons (f := 23) (args := #[.pointer (some ⟨w.heap.size + 4, 0, none⟩), .pointer (some ⟨w.heap.size, 0, none⟩), .pointer (some ⟨w.heap.size + 1, 0, none⟩), .pointer (some ⟨w.heap.size + 2, 0, none⟩)]) (by simp) (by simp [go_sem]) ?_
      refine (close_idle _ _ _ _ _).mono ?_
      rintro e u' w'' ⟨rfl, rfl, rfl⟩
      clear c0 c1 c2 c3 c4 c5 z0 z1 z2 z3 z4 z5
      generalize (((((w8.setCell ⟨w.heap.size, 0, none⟩ (.int .i64 f.ints)).setCell ⟨w.heap.size, 1, none⟩ (.int .i64 f.bools)).setCell ⟨w.heap.size, 2, none⟩ (.slice Aa f.atoms.length ca)).setCell ⟨w.heap.size, 3, none⟩ (.slice Ac f.clauses.length cc)).setCell ⟨w.heap.size + 1, 0, none⟩ (.int .i64 0)).setCell ⟨w.heap.size + 1 + 1, 0, none⟩ (.int .i64 0) = W9 at *
      obtain ⟨⟨u0, u1, u2, u3, u4, u5⟩, hb9, hs9, hk9⟩ := H6.out
      simp [Leaves, settle, results, Tryd.results8, go_sem, u0, u1, u2, u3, u4, u5]
      exact ⟨hb9, .inl ⟨f, _, HPR.out, HV.out, rfl, HFK8.out W9 (by omega) (fun k h1 h2 => hk9 k (by omega))⟩⟩
    · have HV := Lib.hid hv
      have q1 : (validF f == 0) = false := by rw [beq_eq_false_iff_ne]; exact hv
      have q2 : (validF f != 0) = true := by unfold bne; rw [q1]; rfl
      have H6 := Lib.hid (six F8 E8 N8 HB8.out (.int .i64 0) (.int .i64 0) (.slice none 0 0) (.slice none 0 0) (.int .i64 (validF f)) (.int .i64 0))
      unfold set6 set4 at H6
      clear F8 E8 N8
      go_wp2_with fail
      refine leaves_cons (f := 23) (args := #[.pointer (some ⟨w.heap.size + 4, 0, none⟩), .pointer (some ⟨w.heap.size, 0, none⟩), .pointer (some ⟨w.heap.size + 1, 0, none⟩), .pointer (some ⟨w.heap.size + 2, 0, none⟩)]) (by simp) (by simp [go_sem]) ?_
      refine (close_idle _ _ _ _ _).mono ?_
      rintro e u' w'' ⟨rfl, rfl, rfl⟩
      clear c0 c1 c2 c3 c4 c5 z0 z1 z2 z3 z4 z5
      generalize (((((w8.setCell ⟨w.heap.size, 0, none⟩ (.int .i64 0)).setCell ⟨w.heap.size, 1, none⟩ (.int .i64 0)).setCell ⟨w.heap.size, 2, none⟩ (.slice none 0 0)).setCell ⟨w.heap.size, 3, none⟩ (.slice none 0 0)).setCell ⟨w.heap.size + 1, 0, none⟩ (.int .i64 (validF f))).setCell ⟨w.heap.size + 1 + 1, 0, none⟩ (.int .i64 0) = W9 at *
      obtain ⟨⟨u0, u1, u2, u3, u4, u5⟩, hb9, hs9, hk9⟩ := H6.out
      simp [Leaves, settle, results, Tryd.results8, go_sem, u0, u1, u2, u3, u4, u5]
      exact ⟨hb9, .inr (.inl ⟨f, HPR.out, HV.out, rfl⟩)⟩
end Go.Proofs.YtfffalfnjficaaaDoor
