/-
  PLAIN LAW: refutations by cases: what each turn of refute leaves. No program.
-/
import Derived.Test.YtdmndikenejhiaaRefLaw
namespace Go.Proofs.Ytdmndikenejhiaa

theorem runS_append {f : Form} {a cs : List (List Int)} {l : List Stp} (h : runS f a l = (cs, true)) (r : List Stp) : runS f a (l ++ r) = runS f cs r := by
  induction l generalizing a with
  | nil => rw [runS] at h; injection h with h _; rw [h]; rfl
  | cons s l ih =>
    rw [runS] at h
    rw [List.cons_append, runS]
    cases e : deriv f s a with
    | none => rw [e] at h; injection h with _ h; cases h
    | some c => rw [e] at h; exact ih h
theorem runS_lenT {f : Form} {a cs : List (List Int)} {l : List Stp} (h : runS f a l = (cs, true)) : cs.length = a.length + l.length := by
  induction l generalizing a with
  | nil => rw [runS] at h; injection h with h _; rw [h]; simp
  | cons s l ih =>
    rw [runS] at h
    cases e : deriv f s a with
    | none => rw [e] at h; injection h with _ h; cases h
    | some c => rw [e] at h; have := ih h; simp at this ⊢; omega
theorem runS_norm {f : Form} {a cs : List (List Int)} {l : List Stp} (h : runS f a l = (cs, true)) (ha : ∀ c ∈ a, ∃ xs, norm xs = some c) : ∀ c ∈ cs, ∃ xs, norm xs = some c := by
  induction l generalizing a with
  | nil => rw [runS] at h; injection h with h _; rw [← h]; exact ha
  | cons s l ih =>
    rw [runS] at h
    cases e : deriv f s a with
    | none => rw [e] at h; injection h with _ h; cases h
    | some c =>
      rw [e] at h
      refine ih h fun c' hc => ?_
      rcases List.mem_append.1 hc with hc | hc
      · exact ha c' hc
      · simp at hc; subst hc; exact deriv_norm e

/-- Steps that are right, with their clauses. -/
def Good (f : Form) (ps : List Stp) (cs : List (List Int)) : Prop := runS f [] ps = (cs, true)
theorem Good.nil (f : Form) : Good f [] [] := rfl
theorem Good.snoc {f : Form} {ps : List Stp} {cs : List (List Int)} {s : Stp} {c : List Int} (h : Good f ps cs) (hd : deriv f s cs = some c) : Good f (ps ++ [s]) (cs ++ [c]) := by
  unfold Good at h ⊢
  rw [runS_append h, runS, hd]
  rfl
theorem Good.len {f : Form} {ps : List Stp} {cs : List (List Int)} (h : Good f ps cs) : cs.length = ps.length := by
  have := runS_lenT h; simpa using this

/-- A clause in normal form. -/
def Nrm (c : List Int) : Prop := Up c ∧ ∀ x ∈ c, badLit x = false
theorem nrm_of {xs c : List Int} (h : norm xs = some c) : Nrm c := by
  have hs := norm_spec xs
  rw [h] at hs
  exact ⟨hs.1, fun x hx => hs.2.2 x ((hs.2.1 x).1 hx)⟩
theorem Nrm.nz {c : List Int} (h : Nrm c) {x : Int} (hx : x ∈ c) : x ≠ 0 := by
  intro e; have := h.2 x hx; rw [e] at this; cases this
theorem Good.nrm {f : Form} {ps : List Stp} {cs : List (List Int)} (h : Good f ps cs) {c : List Int} (hc : c ∈ cs) : Nrm c := by
  obtain ⟨xs, hx⟩ := runS_norm h (by simp) c hc
  exact nrm_of hx

theorem failsB_iff {val c : List Int} : failsB val c = true ↔ ∀ x ∈ c, val.getD (x.natAbs - 1) 0 = -x := by
  unfold failsB falseB
  rw [List.all_eq_true]
  simp
/-- A clause that fails under one more assumption, and does not deny it, fails without it. -/
theorem fails_less {val c : List Int} {v : Nat} {a : Int} (h : failsB (val.set v a) c = true) (hn : -a ∉ c) (hv : v < val.length) : failsB val c = true := by
  rw [failsB_iff] at h ⊢
  intro x hx
  have h1 := h x hx
  rw [List.getD_eq_getElem?_getD, List.getElem?_set] at h1
  split at h1
  · rename_i e
    simp only [Option.getD_some] at h1
    exact absurd hx (by rw [show x = -a by omega]; exact hn)
  · rw [List.getD_eq_getElem?_getD]; exact h1
/-- The two cases resolved. -/
theorem res_fails {val cp cq : List Int} {v : Nat} (hv : v < val.length) (h24 : v < 1024) (hp : failsB (val.set v ((v : Int) + 1)) cp = true) (hq : failsB (val.set v (-((v : Int) + 1))) cq = true) (np : Nrm cp) (nq : Nrm cq) (mp : -((v : Int) + 1) ∈ cp) (mq : (v : Int) + 1 ∈ cq) :
    ∃ c, res cq cp v = some c ∧ failsB val c = true := by
  have key : ∀ x ∈ cq.filter (fun x => decide (x ≠ (v : Int) + 1)) ++ cp.filter (fun x => decide (x ≠ -((v : Int) + 1))), val.getD (x.natAbs - 1) 0 = -x ∧ badLit x = false := by
    intro x hx
    rcases List.mem_append.1 hx with hx | hx
    · obtain ⟨h1, h2⟩ := List.mem_filter.1 hx
      refine ⟨?_, nq.2 x h1⟩
      have h3 := failsB_iff.1 hq x h1
      rw [List.getD_eq_getElem?_getD, List.getElem?_set] at h3
      split at h3
      · simp only [Option.getD_some] at h3
        exact absurd (show x = (v : Int) + 1 by omega) (by simpa using h2)
      · rw [List.getD_eq_getElem?_getD]; exact h3
    · obtain ⟨h1, h2⟩ := List.mem_filter.1 hx
      refine ⟨?_, np.2 x h1⟩
      have h3 := failsB_iff.1 hp x h1
      rw [List.getD_eq_getElem?_getD, List.getElem?_set] at h3
      split at h3
      · simp only [Option.getD_some] at h3
        exact absurd (show x = -((v : Int) + 1) by omega) (by simpa using h2)
      · rw [List.getD_eq_getElem?_getD]; exact h3
  have hr : res cq cp v = norm (cq.filter (fun x => decide (x ≠ (v : Int) + 1)) ++ cp.filter (fun x => decide (x ≠ -((v : Int) + 1)))) := by
    unfold res
    rw [if_pos ⟨by omega, by omega, mq, mp⟩]
  rw [hr]
  generalize cq.filter (fun x => decide (x ≠ (v : Int) + 1)) ++ cp.filter (fun x => decide (x ≠ -((v : Int) + 1))) = zs at key
  have hs := norm_spec zs
  cases e : norm zs with
  | none =>
    exfalso
    rw [e] at hs
    rcases hs with ⟨y, hy, hb⟩ | ⟨y, hy, hy2, h0⟩
    · rw [(key y hy).2] at hb; cases hb
    · have h1 := (key y hy).1
      have h2 := (key _ hy2).1
      have h3 := (key y hy).2
      rw [show (-y).natAbs - 1 = y.natAbs - 1 by omega, h1] at h2
      have : y = 0 := by omega
      rw [this] at h3; cases h3
  | some c =>
    rw [e] at hs
    exact ⟨c, rfl, failsB_iff.2 fun x hx => (key x ((hs.2.1 x).1 hx)).1⟩
/-- Where nothing is assumed, only the empty clause fails. -/
theorem fails_zero {n : Nat} {c : List Int} (h : failsB (List.replicate n 0) c = true) (hz : Nrm c) : c = [] := by
  cases c with
  | nil => rfl
  | cons x r =>
    exfalso
    have h1 := failsB_iff.1 h x (by simp)
    have h2 := hz.nz (x := x) (by simp)
    rw [List.getD_eq_getElem?_getD, List.getElem?_replicate] at h1
    split at h1 <;> simp at h1 <;> omega

/-- How many booleans have no assumption. -/
def free (val : List Int) : Nat := (val.filter fun x => x == 0).length
theorem free_set {val : List Int} {v : Nat} {a : Int} (h : val[v]? = some 0) (ha : a ≠ 0) : free (val.set v a) + 1 = free val := by
  induction val generalizing v with
  | nil => simp at h
  | cons x r ih =>
    cases v with
    | zero =>
      simp at h; subst h
      simp [free, ha]
    | succ v =>
      rw [List.getElem?_cons_succ] at h
      have := ih h
      unfold free at this ⊢
      rw [List.set_cons_succ, List.filter_cons, List.filter_cons]
      split
      · simp at this ⊢; omega
      · exact this
theorem free_zero {val : List Int} (h : free val = 0) : ∀ x ∈ val, x ≠ 0 := by
  intro x hx e
  subst e
  have := List.length_eq_zero_iff.1 h
  rw [List.filter_eq_nil_iff] at this
  exact this 0 hx (by simp)
theorem OkV.set {f : Form} {val : List Int} {v : Nat} {a : Int} (h : OkV f val) (ha : a = 0 ∨ a = (v : Int) + 1 ∨ a = -((v : Int) + 1)) : OkV f (val.set v a) := by
  refine ⟨by simpa using h.1, fun i x hx => ?_⟩
  rw [List.getElem?_set] at hx
  split at hx
  · rename_i e
    split at hx
    · injection hx with hx; subst hx e; exact ha
    · cases hx
  · exact h.2 i x hx

/-- A model by the full assumptions: no clause fails and the constraints have the solution sol. -/
def mdlB (val : List Int) : List Bool := val.map fun x => decide (0 < x)
theorem mdl_holds {f : Form} {val : List Int} (hv : OkV f val) (hn : ∀ x ∈ val, x ≠ 0) {x : Int} (hx : okLit f.bools x = true) (h : val.getD (x.natAbs - 1) 0 ≠ -x) : holds (mdlB val) x = true := by
  obtain ⟨h0, h1, h2⟩ := okLit_iff.1 hx
  have hl := hv.1
  have hlt : x.natAbs - 1 < val.length := by omega
  have hg : val[x.natAbs - 1]? = some val[x.natAbs - 1] := List.getElem?_eq_getElem hlt
  have hz := hn _ (List.getElem_mem hlt)
  have ho := hv.2 _ _ hg
  rw [List.getD_eq_getElem?_getD, hg, Option.getD_some] at h
  have he : val[x.natAbs - 1] = x := by omega
  rw [he] at hg
  clear he hz ho h
  rcases lit_cases x with e | ⟨n, e⟩ | ⟨n, e⟩
  · exact absurd e h0
  · have hn2 : x.natAbs - 1 = n := by omega
    rw [hn2, e] at hg
    rw [e, holds_pos, List.getD_eq_getElem?_getD, mdlB, List.getElem?_map, hg]
    simp
  · have hn2 : x.natAbs - 1 = n := by omega
    rw [hn2, e] at hg
    rw [e, holds_neg, mdlB, List.getElem?_map, hg]
    simp; omega
theorem mdl_clause {f : Form} {val : List Int} (hq : SmallQ f) (hv : OkV f val) (hn : ∀ x ∈ val, x ≠ 0) (hc : NoConf f val) {xs : List Int} (hx : xs ∈ f.clauses) : xs.any (holds (mdlB val)) = true := by
  have hs := norm_spec xs
  cases e : norm xs with
  | none =>
    rw [e] at hs
    rcases hs with ⟨y, hy, hb⟩ | ⟨y, hy, hy2, h0⟩
    · exfalso
      have h1 := okLit_iff.1 ((hq.cs xs hx).2 y hy)
      have := hq.bl
      simp [badLit] at hb
      omega
    · by_cases h : val.getD (y.natAbs - 1) 0 = -y
      · rw [List.any_eq_true]
        refine ⟨-y, hy2, mdl_holds hv hn ((hq.cs xs hx).2 _ hy2) ?_⟩
        rw [show (-y).natAbs - 1 = y.natAbs - 1 by omega, h]
        have := (okLit_iff.1 ((hq.cs xs hx).2 y hy)).1
        omega
      · rw [List.any_eq_true]
        exact ⟨y, hy, mdl_holds hv hn ((hq.cs xs hx).2 _ hy) h⟩
  | some c =>
    rw [e] at hs
    have h1 := hc.1 xs hx c e
    rw [failsB, List.all_eq_false] at h1
    obtain ⟨y, hy, h2⟩ := h1
    have hm := (hs.2.1 y).1 hy
    rw [List.any_eq_true]
    refine ⟨y, hm, mdl_holds hv hn ((hq.cs xs hx).2 _ hm) ?_⟩
    simpa [falseB] using h2
end Go.Proofs.Ytdmndikenejhiaa
