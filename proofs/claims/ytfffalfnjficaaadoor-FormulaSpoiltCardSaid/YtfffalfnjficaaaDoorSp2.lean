/-
  WALKS: interleaveref31.words, interleaveref31.Format.
  PLAIN LAW: the text of a formula is read as it; its length.
-/
import Derived.Test.YtfffalfnjficaaaDoorFormat
import Derived.Test.YtfffalfnjficaaaDoorLit
import Derived.Test.YtfffalfnjficaaaDoorWordsRef
import Derived.Test.YtfffalfnjficaaaDoorRText
import Derived.Test.YtfffalfnjficaaaDoorOk
namespace Go.Proofs.YtfffalfnjficaaaDoor
open Go.RowKit

theorem le_sum_of_mem {l : List Nat} {x : Nat} (h : x ∈ l) : x ≤ l.sum := by
  induction l with
  | nil => cases h
  | cons a r ih =>
    rcases List.mem_cons.1 h with rfl | h
    · simp
    · have := ih h; simp; omega

def atomsText (l : List Diff) : List UInt8 := l.flatMap atomText
def clausesText (l : List (List Int)) : List UInt8 := l.flatMap (lineText wClause)
theorem atomsText_succ {l : List Diff} {k : Nat} {x : Diff} (h : l[k]? = some x) : atomsText (l.take (k + 1)) = atomsText (l.take k) ++ atomText x := flatMap_take_succ h
theorem clausesText_succ {l : List (List Int)} {k : Nat} {x : List Int} (h : l[k]? = some x) : clausesText (l.take (k + 1)) = clausesText (l.take k) ++ lineText wClause x := flatMap_take_succ h

set_option maxRecDepth 100000 in
set_option maxHeartbeats 1000000 in
theorem rformat_any (v : Value) (f : Form) (w : World) (hf : IsForm w v f) (hT : Tab w) (hsz : f.atoms.length + f.clauses.length + (f.clauses.map List.length).sum ≤ 1000000) :
    Calls Tryd.prog 12 #[v] w fun e w' => e = .returned (.string ⟨(formText f).toArray⟩) ∧ Below w.heap.size w w' := by
  obtain ⟨av, cv, rfl, hI, hBo, ⟨A, c, rfl, ha1, ha2, ha3, har⟩, hM⟩ := hf
  have hM0 := hM
  obtain ⟨A', c', vs, rfl, hc1, hc2, hc3, hcr, hci⟩ := hM0
  have HM := Lib.hid hM
  have HA3 := Lib.hid ha3
  have HAR := Lib.hid har
  have HT := Lib.hid hT
  have HI := Lib.hid hI
  have HBo := Lib.hid hBo
  have HSZ := Lib.hid hsz
  clear hM ha2 hc2 ha3 har hcr hci hc3 hT hI hBo hsz vs
  obtain ⟨ints, bools, atoms, clauses⟩ := f
  simp only at *
  have htl := HT.out.lt
  have hal : atoms.length + clauses.length + (clauses.map List.length).sum ≤ 1000000 := HSZ.out
  have hhl := headText_len ⟨ints, bools, atoms, clauses⟩ HI.out HBo.out
  go_enter Tryd.func12, Tryd.ntmps12
  go_wp2_with fail
  refine (words_any wFormula _ [ints, bools] _ ?hv ?ht (by simp [wFormula])).mono ?_
  case ht => exact HT.out.keep (B := w.heap.size) (by go_grown) htl
  case hv =>
    refine ints_lit (g := w.heap.size + 1) (xs := [ints, bools]) ?_ (Below.refl _ _) (by simp; exact ⟨HI.out, HBo.out⟩) (by simp [maxLen])
    have h := Blk.new (w.alloc (.cells #[.int .i64 ints, .int .i64 bools, .slice A atoms.length c, .slice A' clauses.length c'] 26)) 3 #[.int .i64 ints, .int .i64 bools]
    simpa using h
  rintro e w1 ⟨rfl, hb1⟩
  have B0 : Blk w1 w.heap.size 26 #[.int .i64 ints, .int .i64 bools, .slice A atoms.length c, .slice A' clauses.length c'] := by
    have h := Blk.new w 26 #[.int .i64 ints, .int .i64 bools, .slice A atoms.length c, .slice A' clauses.length c']
    exact (h.alloc _).keep hb1
  have hB1 : w.heap.size + 1 ≤ w1.heap.size := by have := hb1.size; simp at this; omega
  have HBW : Hid (Below w.heap.size w w1) := by
    refine Below.trans ?_ (hb1.mono (by simp; omega))
    go_grown
  have HB0 := Lib.hid B0
  clear B0 hb1
  have q2 := HB0.out.cell 2
  simp only [List.getElem?_toArray, List.getElem?_cons_zero, List.getElem?_cons_succ] at q2
  go_wp2_with fail
  clear q2
  go_loopw [3, 17] (fun s i wr => ∃ k : Nat, k ≤ atoms.length ∧ i = .int .i64 k ∧ s = .string ⟨(headText ⟨ints, bools, atoms, clauses⟩ ++ atomsText (atoms.take k)).toArray⟩ ∧ Below (w.heap.size + 1) w1 wr) (fun _ i _ => atoms.length - (intOf i).toNat)
  case atStart => exact ⟨0, by omega, rfl, by rw [List.take_zero]; simp [atomsText]; rfl, Below.refl _ _⟩
  case round =>
    obtain ⟨k, hk, rfl, rfl, hkp⟩ := hrel
    have HKk := Lib.hid hkp
    clear hkp
    have hBr : w.heap.size + 1 ≤ wr.heap.size := Nat.le_trans hB1 HKk.out.size
    have HBR := Lib.hid (HBW.out.trans (HKk.out.mono (by omega)) : Below w.heap.size w wr)
    by_cases hlt : k < atoms.length
    · obtain ⟨d, hd⟩ : ∃ d, atoms[k]? = some d := ⟨_, List.getElem?_eq_getElem hlt⟩
      obtain ⟨b1, o1, rfl, hb1, hc1, hc2, hc3⟩ := (HAR.out.keep HBR.out).diff hd
      obtain ⟨x, y, z⟩ := d
      have HD := Lib.hid hd
      have HOK := Lib.hid (HA3.out _ (List.mem_of_getElem? hd))
      clear hd
      simp only at hc1 hc2 hc3
      have htl1 : (atomsText (atoms.take k)).length ≤ 71 * k := by
        have h1 := atomsText_len (atoms.take k) fun y hy => HA3.out y (List.mem_of_mem_take hy)
        have h2 := List.length_take_le k atoms
        exact Nat.le_trans h1 (by omega)
      have htl2 : (lineText wAtom [x, y, z]).length ≤ 71 := atomText_len ⟨x, y, z⟩ HOK.out
      go_wp2_with fail
      refine (words_any wAtom _ [x, y, z] _ ?hv ?ht (by simp [wAtom])).mono ?_
      case ht => exact (HT.out.keep HBR.out htl).keep (B := wr.heap.size) (by go_grown) (by omega)
      case hv =>
        obtain ⟨k1, k2, k3⟩ := HOK.out
        refine ints_lit (g := wr.heap.size + 1) (xs := [x, y, z]) ?_ (Below.refl _ _) (by simp; exact ⟨k1, k2, k3⟩) (by simp [maxLen])
        have h := Blk.new (wr.alloc (.cells #[.int .i64 x, .int .i64 y, .int .i64 z] 48)) 3 #[.int .i64 x, .int .i64 y, .int .i64 z]
        simpa using h
      rintro e w2 ⟨rfl, hb2⟩
      have HB2 : Hid (Below (w.heap.size + 1) w1 w2) := HKk.out.trans (Below.trans (by go_grown) (hb2.mono (by simp; omega)))
      clear hb2
      go_wp2_with fail
      refine ⟨⟨k + 1, by omega, by go_num, ?_, HB2.out⟩, by simp [intOf]; omega⟩
      refine congrArg Value.string ?_
      rw [str_append, atomsText_succ HD.out]
      simp [atomText]
    · have HA : Hid (atoms.take k = atoms) := List.take_of_length_le (by omega)
      have q3 := (HB0.out.below HKk.out (by omega)).cell 3
      simp only [List.getElem?_toArray, List.getElem?_cons_zero, List.getElem?_cons_succ] at q3
      obtain ⟨w2, rfl⟩ : ∃ w2 : World, w2 = wr := ⟨_, rfl⟩
      go_wp2_with fail
      clear q3
      go_loopw [3, 35] (fun s i wr => ∃ k : Nat, k ≤ clauses.length ∧ i = .int .i64 k ∧ s = .string ⟨(headText ⟨ints, bools, atoms, clauses⟩ ++ atomsText atoms ++ clausesText (clauses.take k)).toArray⟩ ∧ Below (w.heap.size + 1) w2 wr) (fun _ i _ => clauses.length - (intOf i).toNat)
      case atStart => exact ⟨0, by omega, rfl, by rw [HA.out]; simp [clausesText], Below.refl _ _⟩
      case round =>
        obtain ⟨k, hk, rfl, rfl, hkp⟩ := hrel
        have HKq := Lib.hid hkp
        clear hkp
        have HBR2 := Lib.hid (HBR.out.trans (HKq.out.mono (by omega)) : Below w.heap.size w wr)
        by_cases hlt2 : k < clauses.length
        · obtain ⟨xs, hxs⟩ : ∃ x, clauses[k]? = some x := ⟨_, List.getElem?_eq_getElem hlt2⟩
          obtain ⟨A2, c2, vs, hv, _, _, hm3, hm4, hm5⟩ := HM.out
          injection hv with hv1 _ hv3
          subst hv1 hv3
          obtain ⟨b, off, A1, c1, rfl, hb, hcell0, hint⟩ := Mat.at_ hm4 hm3 hm5 hxs
          have hcell := (HBR2.out.cell (p := ⟨b, off + k, none⟩) hb).trans hcell0
          have HINT := Lib.hid hint
          have HX := Lib.hid hxs
          have HXL : Hid (xs.length ≤ 1000000) := by
            have h3 : xs.length ≤ (clauses.map List.length).sum := le_sum_of_mem (List.mem_map_of_mem (List.mem_of_getElem? hxs))
            exact Nat.le_trans h3 (by have := HSZ.out; omega)
          have hci : ∀ c ∈ clauses, ∀ x ∈ c, I64 x := by
            intro c hc x hx
            obtain ⟨j, hj, rfl⟩ := List.getElem_of_mem hc
            obtain ⟨_, _, _, _, _, _, _, _, _, _, _, _, h5, _⟩ := Mat.at_ hm4 hm3 hm5 (List.getElem?_eq_getElem hj)
            exact h5 x hx
          have htl1 : (atomsText atoms).length ≤ 71 * atoms.length := atomsText_len atoms HA3.out
          have htl2 : (clausesText (clauses.take k)).length ≤ 29000000 := by
            have h1 : (clausesText (clauses.take k)).length ≤ _ := clausesText_len (clauses.take k) fun y hy => hci y (List.mem_of_mem_take hy)
            have h3 : ((clauses.take k).map List.length).sum ≤ (clauses.map List.length).sum := by rw [List.map_take]; exact sum_take_le _ _
            have h4 := List.length_take_le k clauses
            omega
          have htl3 : (lineText wClause xs).length ≤ 22000007 := by
            have h1 := lineText_len wClause xs (hci xs (List.mem_of_getElem? hxs))
            have h4 : wClause.length = 6 := rfl
            have := HXL.out
            omega
          clear hm3 hm4 hm5 hint hxs hcell0 hci
          go_wp2_with fail
          refine (words_any wClause _ xs _ (HINT.out.keep HBR2.out) (HT.out.keep HBR2.out htl) (by have := HXL.out; have h4 : wClause.length = 6 := rfl; omega)).mono ?_
          rintro e w3 ⟨rfl, hb3⟩
          have HB3 := Lib.hid (HKq.out.trans (hb3.mono (by have := HKq.out.size; omega)))
          clear hb3
          go_wp2_with fail
          refine ⟨⟨k + 1, by omega, by go_num, ?_, HB3.out⟩, by simp [intOf]; omega⟩
          refine congrArg Value.string ?_
          rw [str_append, clausesText_succ HX.out]
          simp
        · have HC : Hid (clauses.take k = clauses) := List.take_of_length_le (by omega)
          go_wp2_with fail
          go_ret
          refine ⟨?_, HBR2.out⟩
          refine congrArg (fun s => Ending.returned (.string s)) ?_
          rw [HC.out]
          simp [formText, atomsText, clausesText]
end Go.Proofs.YtfffalfnjficaaaDoor

namespace Go.Proofs.YtfffalfnjficaaaDoor
open Go.RowKit

theorem sum_small (l : List (List Int)) (h : ∀ c ∈ l, c.length ≤ 4) : (l.map List.length).sum ≤ 4 * l.length := by
  induction l with
  | nil => simp
  | cons c r ih =>
    have h1 := h c (by simp)
    have h2 := ih fun y hy => h y (by simp [hy])
    simp only [List.map_cons, List.sum_cons, List.length_cons]; omega
theorem form_read {w : World} {v : Value} {f : Form} (hf : IsForm w v f) : ParseR (formText f) (.ok f) := by
  obtain ⟨av, cv, rfl, h1, h2, ⟨A, c, rfl, _, _, ha, _⟩, hM⟩ := hf
  obtain ⟨A', c', vs, rfl, _, _, hl, _, hci⟩ := hM
  have := text_read f h1 h2 ha (fun xs hxs => by
    obtain ⟨k, hk⟩ := List.getElem?_of_mem hxs
    obtain ⟨u, hu⟩ : ∃ u, vs[k]? = some u := ⟨_, List.getElem?_eq_getElem (by have := (List.getElem?_eq_some_iff.1 hk).1; omega)⟩
    obtain ⟨_, _, _, _, _, hx, _⟩ := hci k u xs hu hk
    exact hx)
  unfold formText headText
  rw [List.append_assoc]
  exact this
theorem form_len {w : World} {v : Value} {f : Form} (hf : IsForm w v f) (h1 : f.atoms.length ≤ 1000) (h2 : f.clauses.length ≤ 1000) (h3 : ∀ c ∈ f.clauses, c.length ≤ 4) : (formText f).length ≤ 1000000 := by
  obtain ⟨av, cv, rfl, g1, g2, ⟨A, c, rfl, _, _, ha, _⟩, hM⟩ := hf
  obtain ⟨A', c', vs, rfl, _, _, hl, _, hci⟩ := hM
  have hc : ∀ xs ∈ f.clauses, ∀ x ∈ xs, I64 x := fun xs hxs => by
    obtain ⟨k, hk⟩ := List.getElem?_of_mem hxs
    obtain ⟨u, hu⟩ : ∃ u, vs[k]? = some u := ⟨_, List.getElem?_eq_getElem (by have := (List.getElem?_eq_some_iff.1 hk).1; omega)⟩
    obtain ⟨_, _, _, _, _, hx, _⟩ := hci k u xs hu hk
    exact hx
  have e1 := headText_len f g1 g2
  have e2 := atomsText_len f.atoms ha
  have e3 := clausesText_len f.clauses hc
  have e4 := sum_small f.clauses h3
  unfold formText
  simp only [List.length_append]
  omega
theorem form_lenS {w : World} {v : Value} {f : Form} (hf : IsForm w v f) (h1 : f.atoms.length ≤ 100) (h2 : f.clauses.length ≤ 100) (h3 : ∀ c ∈ f.clauses, c.length ≤ 4) : (formText f).length ≤ 400000 := by
  obtain ⟨av, cv, rfl, g1, g2, ⟨A, c, rfl, _, _, ha, _⟩, hM⟩ := hf
  obtain ⟨A', c', vs, rfl, _, _, hl, _, hci⟩ := hM
  have hc : ∀ xs ∈ f.clauses, ∀ x ∈ xs, I64 x := fun xs hxs => by
    obtain ⟨k, hk⟩ := List.getElem?_of_mem hxs
    obtain ⟨u, hu⟩ : ∃ u, vs[k]? = some u := ⟨_, List.getElem?_eq_getElem (by have := (List.getElem?_eq_some_iff.1 hk).1; omega)⟩
    obtain ⟨_, _, _, _, _, hx, _⟩ := hci k u xs hu hk
    exact hx
  have e1 := headText_len f g1 g2
  have e2 := atomsText_len f.atoms ha
  have e3 := clausesText_len f.clauses hc
  have e4 := sum_small f.clauses h3
  unfold formText
  simp only [List.length_append]
  omega
end Go.Proofs.YtfffalfnjficaaaDoor
