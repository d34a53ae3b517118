/-
  WALK: formula.Format.
-/
import Derived.Test.YtfffalfnjficaaaDoorIntsNew
import Derived.Test.YtfffalfnjficaaaDoorText
import Derived.Test.YtfffalfnjficaaaDoorForm
namespace Go.Proofs.YtfffalfnjficaaaDoor
open Go.RowKit

/-- The words of the lines: formula, atom, clause. -/
def wFormula : List UInt8 := [102, 111, 114, 109, 117, 108, 97]
def wAtom : List UInt8 := [97, 116, 111, 109]
def wClause : List UInt8 := [99, 108, 97, 117, 115, 101]
def atomText (d : Diff) : List UInt8 := lineText wAtom [d.x, d.y, d.c]
def headText (f : Form) : List UInt8 := lineText wFormula [f.ints, f.bools]
def formText (f : Form) : List UInt8 := headText f ++ f.atoms.flatMap atomText ++ f.clauses.flatMap (lineText wClause)

theorem atomText_len (d : Diff) (h : d.ok) : (atomText d).length ≤ 71 := by
  obtain ⟨h1, h2, h3⟩ := h
  have := lineText_len wAtom [d.x, d.y, d.c] (by simp; exact ⟨h1, h2, h3⟩)
  simp only [atomText, wAtom, List.length_cons, List.length_nil] at this ⊢; omega
theorem headText_len (f : Form) (h1 : I64 f.ints) (h2 : I64 f.bools) : (headText f).length ≤ 52 := by
  have := lineText_len wFormula [f.ints, f.bools] (by simp; exact ⟨h1, h2⟩)
  simp only [headText, wFormula, List.length_cons, List.length_nil] at this ⊢; omega
theorem atomsText_len (l : List Diff) (h : ∀ d ∈ l, d.ok) : (l.flatMap atomText).length ≤ 71 * l.length := by
  induction l with
  | nil => simp
  | cons d r ih =>
    have h1 := atomText_len d (h d (by simp))
    have h2 := ih fun y hy => h y (by simp [hy])
    simp only [List.flatMap_cons, List.length_append, List.length_cons]; omega
theorem clausesText_len (l : List (List Int)) (h : ∀ c ∈ l, ∀ x ∈ c, I64 x) : (l.flatMap (lineText wClause)).length ≤ 7 * l.length + 22 * (l.map List.length).sum := by
  induction l with
  | nil => simp
  | cons d r ih =>
    have h1 := lineText_len wClause d (h d (by simp))
    have h2 := ih fun y hy => h y (by simp [hy])
    simp only [List.flatMap_cons, List.length_append, List.length_cons, List.map_cons, List.sum_cons, wClause, List.length_nil] at h1 ⊢; simp only [wClause] at h2; omega

theorem sum_take_le (l : List Nat) (k : Nat) : (l.take k).sum ≤ l.sum := by
  induction l generalizing k with
  | nil => simp
  | cons a r ih => cases k with
    | zero => simp
    | succ k => simp; exact ih k

set_option maxRecDepth 100000 in
set_option maxHeartbeats 1000000 in
theorem fformat_any (v : Value) (f : Form) (w : World) (hf : IsForm w v f) (hT : Tab w) (hsz : f.atoms.length + f.clauses.length + (f.clauses.map List.length).sum ≤ 1000000) :
    Calls Tryd.prog 14 #[v] w fun e w' => e = .returned (.string ⟨(formText f).toArray⟩) ∧ Below w.heap.size w w' := by
  obtain ⟨av, cv, rfl, hI, hBo, ⟨A, c, rfl, ha1, ha2, ha3, har⟩, hM⟩ := hf
  have hM0 := hM
  obtain ⟨A', c', vs, rfl, hc1, hc2, hc3, hcr, hci⟩ := hM0
  have HM := Lib.hid hM
  have HA3 := Lib.hid ha3
  have HAR := Lib.hid har
  have HT := Lib.hid hT
  have HI := Lib.hid hI
  have HBo := Lib.hid hBo
  have HSZ := Lib.hid hsz
  clear hM ha2 hc2 ha3 har hcr hci hc3 hT hI hBo hsz vs
  obtain ⟨ints, bools, atoms, clauses⟩ := f
  simp only at *
  go_enter Tryd.func14, Tryd.ntmps14
  go_wp2_with fail
  have htl := HT.out.lt
  refine (line_any (w.heap.size + 1) (w.heap.size + 1) [] wFormula _ [ints, bools] _ ?hb ?ht (by omega) ?hv ?hl ?hbw).mono ?_
  case hb =>
    have h := Lib.fresh_isBuilder 69 5 (w.alloc (.cells #[.int .i64 ints, .int .i64 bools, .slice A atoms.length c, .slice A' clauses.length c'] 26))
    simp only [World.size_alloc] at h
    exact isBuilder_keep h (by go_grown)
  case ht => exact HT.out.keep (B := w.heap.size) (by go_grown) htl
  case hv => 
    intro w' hk
    refine ints_new (g := w.heap.size + 2) (xs := [ints, bools]) hk ?_ (by omega) (by simp; exact ⟨HI.out, HBo.out⟩) (by simp [maxLen])
    have h := Blk.new ((w.alloc (.cells #[.int .i64 ints, .int .i64 bools, .slice A atoms.length c, .slice A' clauses.length c'] 26)).alloc (.cells #[.pointer none, .slice none 0 0] 69)) 3 #[.int .i64 ints, .int .i64 bools]
    simpa using h
  case hl => simp [wFormula]
  case hbw => simp
  rintro e w1 ⟨rfl, hb1, hk1⟩
  have B0 : Blk w1 w.heap.size 26 #[.int .i64 ints, .int .i64 bools, .slice A atoms.length c, .slice A' clauses.length c'] := by
    have h := Blk.new w 26 #[.int .i64 ints, .int .i64 bools, .slice A atoms.length c, .slice A' clauses.length c']
    exact ((h.alloc _).alloc _).below hk1.below (by omega)
  have hbw1 : Below w.heap.size w w1 := by
    refine Below.trans ?_ (hk1.below.mono (by omega))
    go_grown
  have hT1 := HT.out.keep hbw1 htl
  have hB1 : w.heap.size + 1 ≤ w1.heap.size := by have := hk1.below.size; simp at this; omega
  rw [List.nil_append] at hb1
  have HB0 := Lib.hid B0
  have HBW := Lib.hid hbw1
  have HT1 := Lib.hid hT1
  have HB1 := Lib.hid hb1
  clear B0 hbw1 hT1 hb1 hk1
  have q2 := HB0.out.cell 2
  simp only [List.getElem?_toArray, List.getElem?_cons_zero, List.getElem?_cons_succ] at q2
  have hal : atoms.length + clauses.length + (clauses.map List.length).sum ≤ 1000000 := HSZ.out
  have HHL := Lib.hid (headText_len ⟨ints, bools, atoms, clauses⟩ HI.out HBo.out)
  go_wp2_with fail
  clear q2
  go_loopw [17] (fun i wr => ∃ k : Nat, k ≤ atoms.length ∧ i = .int .i64 k ∧ Lib.IsBuilder 69 5 (w.heap.size + 1) (w.heap.size + 1) (Lib.byteCells (headText ⟨ints, bools, atoms, clauses⟩ ++ (atoms.take k).flatMap atomText)) wr ∧ Kept (w.heap.size + 1) (w.heap.size + 1) w1 wr) (fun i _ => atoms.length - (intOf i).toNat)
  case atStart => exact ⟨0, by omega, rfl, by simpa [headText] using HB1.out, Kept.refl _ _ _⟩
  case round =>
    obtain ⟨k, hk, rfl, hb, hkp⟩ := hrel
    have HBk := Lib.hid hb
    have HKk := Lib.hid hkp
    clear hb hkp
    have hBr : w.heap.size + 1 ≤ wr.heap.size := Nat.le_trans hB1 HKk.out.below.size
    have hbwr : Below w.heap.size w wr := HBW.out.trans (HKk.out.below.mono (by omega))
    have HBR := Lib.hid hbwr
    clear hbwr
    have HTL : Hid (((atoms.take k).flatMap atomText).length ≤ 71 * k) := by
      have h1 := atomsText_len (atoms.take k) fun y hy => HA3.out y (List.mem_of_mem_take hy)
      have h2 := List.length_take_le k atoms
      exact Nat.le_trans h1 (by omega)
    by_cases hlt : k < atoms.length
    · obtain ⟨d, hd⟩ : ∃ d, atoms[k]? = some d := ⟨_, List.getElem?_eq_getElem hlt⟩
      obtain ⟨b1, o1, rfl, hb1, hc1, hc2, hc3⟩ := (HAR.out.keep HBR.out).diff hd
      obtain ⟨x, y, z⟩ := d
      have HD := Lib.hid hd
      have HOK := Lib.hid (HA3.out _ (List.mem_of_getElem? hd))
      clear hd
      simp only at hc1 hc2 hc3
      go_wp2_with fail
      refine (line_any (w.heap.size + 1) (w.heap.size + 1) (headText ⟨ints, bools, atoms, clauses⟩ ++ (atoms.take k).flatMap atomText) wAtom _ [x, y, z] _ ?hb ?ht (by omega) ?hv ?hl ?hbw).mono ?_
      case hb => exact isBuilder_keep HBk.out (by go_grown)
      case ht => exact (HT1.out.keep HKk.out.below (by omega)).keep (B := wr.heap.size) (by go_grown) (by omega)
      case hv =>
        intro w' hk
        obtain ⟨k1, k2, k3⟩ := HOK.out
        refine ints_new (g := wr.heap.size + 1) (xs := [x, y, z]) hk ?_ (by omega) (by simp; exact ⟨k1, k2, k3⟩) (by simp [maxLen])
        have h := Blk.new (wr.alloc (.cells #[.int .i64 x, .int .i64 y, .int .i64 z] 48)) 3 #[.int .i64 x, .int .i64 y, .int .i64 z]
        simpa using h
      case hl =>
        have h1 := HHL.out
        have h2 := HTL.out
        have h3 : wAtom.length = 4 := rfl
        simp only [List.length_append, List.length_cons, List.length_nil]; omega
      case hbw => simp; omega
      rintro e w2 ⟨rfl, hb2, hk2⟩
      have HB2 := Lib.hid hb2
      have HK2 : Hid (Kept (w.heap.size + 1) (w.heap.size + 1) w1 w2) := (HKk.out.trans (Kept.of_below (by go_grown) hBr)).trans hk2
      clear hb2 hk2
      go_wp2_with fail
      go_roundw
      case rel => exact ⟨k + 1, by omega, by go_num, by rw [flatMap_take_succ HD.out, ← List.append_assoc]; exact HB2.out, HK2.out⟩
      case measure => simp [intOf]; omega
    · have HBA : Hid (Lib.IsBuilder 69 5 (w.heap.size + 1) (w.heap.size + 1) (Lib.byteCells (headText ⟨ints, bools, atoms, clauses⟩ ++ atoms.flatMap atomText)) wr) := by
        have h := HBk.out
        rwa [List.take_of_length_le (by omega)] at h
      have q3 := (HB0.out.below HKk.out.below (by omega)).cell 3
      simp only [List.getElem?_toArray, List.getElem?_cons_zero, List.getElem?_cons_succ] at q3
      obtain ⟨w2, rfl⟩ : ∃ w2 : World, w2 = wr := ⟨_, rfl⟩
      have HTA : Hid ((atoms.flatMap atomText).length ≤ 71 * atoms.length) := atomsText_len atoms HA3.out
      go_wp2_with fail
      clear q3
      go_loopw [33] (fun i wr => ∃ k : Nat, k ≤ clauses.length ∧ i = .int .i64 k ∧ Lib.IsBuilder 69 5 (w.heap.size + 1) (w.heap.size + 1) (Lib.byteCells (headText ⟨ints, bools, atoms, clauses⟩ ++ atoms.flatMap atomText ++ (clauses.take k).flatMap (lineText wClause))) wr ∧ Kept (w.heap.size + 1) (w.heap.size + 1) w2 wr) (fun i _ => clauses.length - (intOf i).toNat)
      case atStart => exact ⟨0, by omega, rfl, by simpa using HBA.out, Kept.refl _ _ _⟩
      case round =>
        obtain ⟨k, hk, rfl, hb, hkp⟩ := hrel
        have HBk := Lib.hid hb
        have HKq := Lib.hid hkp
        clear hb hkp
        have hBr2 : w.heap.size + 1 ≤ wr.heap.size := Nat.le_trans hBr HKq.out.below.size
        have HBR2 := Lib.hid (HBR.out.trans (HKq.out.below.mono (by omega)) : Below w.heap.size w wr)
        by_cases hlt2 : k < clauses.length
        · obtain ⟨xs, hxs⟩ : ∃ x, clauses[k]? = some x := ⟨_, List.getElem?_eq_getElem hlt2⟩
          obtain ⟨A2, c2, vs, hv, _, _, hm3, hm4, hm5⟩ := HM.out
          injection hv with hv1 _ hv3
          subst hv1 hv3
          obtain ⟨b, off, A1, c1, rfl, hb, hcell0, hint⟩ := Mat.at_ hm4 hm3 hm5 hxs
          have hcell := (HBR2.out.cell (p := ⟨b, off + k, none⟩) hb).trans hcell0
          have HINT := Lib.hid hint
          have HX := Lib.hid hxs
          have HTC : Hid (((clauses.take k).flatMap (lineText wClause)).length + 7 + 22 * xs.length ≤ 7 * clauses.length + 22 * (clauses.map List.length).sum) := by
            have hci : ∀ c ∈ clauses, ∀ x ∈ c, I64 x := by
              intro c hc x hx
              obtain ⟨j, hj, rfl⟩ := List.getElem_of_mem hc
              obtain ⟨_, _, _, _, _, _, _, _, _, _, _, _, h5, _⟩ := Mat.at_ hm4 hm3 hm5 (List.getElem?_eq_getElem hj)
              exact h5 x hx
            have h1 := clausesText_len (clauses.take (k + 1)) fun y hy => hci y (List.mem_of_mem_take hy)
            have h1' := clausesText_len (clauses.take k) fun y hy => hci y (List.mem_of_mem_take hy)
            have h2 : ((clauses.take (k + 1)).map List.length).sum = ((clauses.take k).map List.length).sum + xs.length := by rw [take_succ_of hxs]; simp
            have h3 : ((clauses.take (k + 1)).map List.length).sum ≤ (clauses.map List.length).sum := by rw [List.map_take]; exact sum_take_le _ _
            have h4 := List.length_take_le k clauses
            show _ ≤ _
            omega
          clear hm3 hm4 hm5 hint hxs hcell0
          go_wp2_with fail
          refine (line_any (w.heap.size + 1) (w.heap.size + 1) (headText ⟨ints, bools, atoms, clauses⟩ ++ atoms.flatMap atomText ++ (clauses.take k).flatMap (lineText wClause)) wClause _ xs _ HBk.out ?ht (by omega) ?hv ?hl hBr2).mono ?_
          case ht => exact HT.out.keep HBR2.out htl
          case hv => exact fun w' hk => HINT.out.keep (HBR2.out.trans (hk.below.mono (by omega)))
          case hl =>
            have h1 := HHL.out
            have h2 := HTA.out
            have h3 := HTC.out
            have h4 : wClause.length = 6 := rfl
            simp only [List.length_append]; omega
          rintro e w3 ⟨rfl, hb3, hk3⟩
          have HB3 := Lib.hid hb3
          have HK3 := Lib.hid (HKq.out.trans hk3)
          clear hb3 hk3
          go_wp2_with fail
          go_roundw
          case rel => exact ⟨k + 1, by omega, by go_num, by rw [flatMap_take_succ HX.out, ← List.append_assoc]; exact HB3.out, HK3.out⟩
          case measure => simp [intOf]; omega
        · have HBC : Hid (Lib.IsBuilder 69 5 (w.heap.size + 1) (w.heap.size + 1) (Lib.byteCells (formText ⟨ints, bools, atoms, clauses⟩)) wr) := by
            have h := HBk.out
            rw [List.take_of_length_le (by omega)] at h
            exact h
          go_wp2_with fail
          refine (Tryd.Builder_String_any _ _ (formText ⟨ints, bools, atoms, clauses⟩) _ HBC.out hBr2).mono ?_
          rintro e w3 ⟨rfl, hb3⟩
          have HB3 := Lib.hid hb3
          clear hb3
          go_wp2_with fail
          go_ret
          exact ⟨rfl, HBR2.out.trans (HB3.out.mono (by omega))⟩
end Go.Proofs.YtfffalfnjficaaaDoor
