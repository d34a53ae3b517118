/-
  PLAIN LAW: refutations by cases. No program.
-/
import Derived.Test.YtfffalfnjficaaaGreatDoorPr41
import Derived.Test.YtfffalfnjficaaaGreatDoorPr31
namespace Go.Proofs.YtfffalfnjficaaaGreatDoor

/-- The assumed literals: none, a boolean or its negation, each at its place. -/
def OkV (f : Form) (val : List Int) : Prop := (val.length : Int) = f.bools ∧ ∀ (i : Nat) (x : Int), val[i]? = some x → x = 0 ∨ x = (i : Int) + 1 ∨ x = -((i : Int) + 1)

/-- What the refuter needs of the formula. -/
structure SmallQ (f : Form) : Prop where
  i0 : 2 ≤ f.ints
  i1 : f.ints ≤ 6
  al : (f.atoms.length : Int) ≤ f.bools
  bl : f.bools ≤ 18
  cl : f.clauses.length ≤ 40
  at_ : ∀ d ∈ f.atoms, okAtom f.ints d = true ∧ -4 ≤ d.c ∧ d.c ≤ 2
  cs : ∀ xs ∈ f.clauses, xs.length ≤ 4 ∧ ∀ x ∈ xs, okLit f.bools x = true
theorem SmallF.q {a b c : Int} {f : Form} (h : SmallF a b c f) : SmallQ f := by
  obtain ⟨h1, h2, h3, h4, h5, h6⟩ := h
  exact ⟨by omega, by omega, by omega, by omega, h4, h5, fun xs hx => (h6 xs hx).2⟩

/-- The literals that are assumed for atoms. -/
def asgK (val : List Int) (k : Nat) : List Int := (val.take k).filter fun x => x != 0
def asg (f : Form) (val : List Int) : List Int := asgK val f.atoms.length
theorem asgK_yes {val : List Int} {k : Nat} {x : Int} (h : val[k]? = some x) (hx : x ≠ 0) : asgK val (k + 1) = asgK val k ++ [x] := by
  unfold asgK
  rw [List.take_add_one, h, Option.toList, List.filter_append]
  simp [hx]
theorem asgK_no {val : List Int} {k : Nat} (h : val[k]? = some 0) : asgK val (k + 1) = asgK val k := by
  unfold asgK
  rw [List.take_add_one, h, Option.toList, List.filter_append]
  simp
theorem asgK_len (val : List Int) (k : Nat) : (asgK val k).length ≤ k := by
  unfold asgK
  exact Nat.le_trans (List.length_filter_le _ _) (List.length_take_le _ _)
theorem bnds_snoc {atoms : List Diff} {xs : List Int} {ds : List Diff} {x : Int} {d : Diff} (h : bnds atoms xs = some ds) (hx : bound atoms x = some d) : bnds atoms (xs ++ [x]) = some (ds ++ [d]) := by
  rw [bnds_some] at h ⊢
  rw [List.map_append, List.map_append, h]; simp [hx]
theorem bnds_len {atoms : List Diff} {xs : List Int} {ds : List Diff} (h : bnds atoms xs = some ds) : ds.length = xs.length := by
  rw [bnds_some] at h
  have := congrArg List.length h
  simpa using this.symm
theorem bnds_at {atoms : List Diff} {xs : List Int} {ds : List Diff} (h : bnds atoms xs = some ds) {k : Nat} {x : Int} (hx : xs[k]? = some x) : ∃ d, ds[k]? = some d ∧ bound atoms x = some d := by
  rw [bnds_some] at h
  have h2 : (xs.map (bound atoms))[k]? = some (bound atoms x) := by rw [List.getElem?_map, hx]; rfl
  rw [h, List.getElem?_map] at h2
  cases e : ds[k]? with
  | none => rw [e] at h2; cases h2
  | some d => rw [e] at h2; injection h2 with h2; exact ⟨d, rfl, h2.symm⟩
theorem bnds_pick {atoms : List Diff} {xs : List Int} {ds : List Diff} (h : bnds atoms xs = some ds) {ks : List Nat} (hk : ∀ k ∈ ks, k < ds.length) : bnds atoms (ks.map fun k => xs.getD k 0) = some (ks.map fun k => ds.getD k ⟨0, 0, 0⟩) := by
  induction ks with
  | nil => rfl
  | cons k ks ih =>
    have hl := bnds_len h
    have hk1 := hk k (by simp)
    obtain ⟨d, h1, h2⟩ := bnds_at h (List.getElem?_eq_getElem (show k < xs.length by omega))
    rw [List.map_cons, List.map_cons, bnds, ih fun j hj => hk j (by simp [hj])]
    rw [List.getD_eq_getElem?_getD, List.getElem?_eq_getElem (show k < xs.length by omega), Option.getD_some, h2, List.getD_eq_getElem?_getD, h1]
    rfl

theorem falseB_at {val : List Int} {i : Nat} {x : Int} (h : val[i]? = some x) (hx : x = (i : Int) + 1 ∨ x = -((i : Int) + 1)) : falseB val (-x) = true := by
  unfold falseB
  rw [show (-x).natAbs - 1 = i by omega, List.getD_eq_getElem?_getD, h]
  simp

/-- A literal that is assumed. -/
def Asm (val : List Int) (x : Int) : Prop := x ≠ 0 ∧ val[x.natAbs - 1]? = some x
theorem Asm.false {val : List Int} {x : Int} (h : Asm val x) : falseB val (-x) = true := by
  unfold falseB
  rw [show (-x).natAbs - 1 = x.natAbs - 1 by omega, List.getD_eq_getElem?_getD, h.2]
  simp
theorem Asm.no {val : List Int} {x : Int} (h : Asm val x) (h2 : Asm val (-x)) : False := by
  have h3 := h2.2
  rw [show (-x).natAbs - 1 = x.natAbs - 1 by omega, h.2] at h3
  injection h3 with h3
  exact h.1 (by omega)
theorem asg_mem {f : Form} {val : List Int} (hv : OkV f val) {x : Int} (hx : x ∈ asg f val) : Asm val x ∧ x.natAbs - 1 < f.atoms.length := by
  unfold asg asgK at hx
  obtain ⟨h1, h2⟩ := List.mem_filter.1 hx
  obtain ⟨i, hi⟩ := List.getElem?_of_mem h1
  rw [List.getElem?_take] at hi
  split at hi
  · rename_i hlt
    have h0 : x ≠ 0 := by simpa using h2
    have := hv.2 i x hi
    have e : x.natAbs - 1 = i := by omega
    exact ⟨⟨h0, by rw [e]; exact hi⟩, by omega⟩
  · cases hi

/-- The negations of assumed literals have a normal form, and it fails. -/
theorem norm_neg {val used : List Int} (h : ∀ x ∈ used, Asm val x) (hb : ∀ x ∈ used, -1000 ≤ x ∧ x ≤ 1000) : ∃ c, norm (used.map fun x => -x) = some c ∧ failsB val c = true := by
  cases e : norm (used.map fun x => -x) with
  | none =>
    exfalso
    have hs := norm_spec (used.map fun x => -x)
    rw [e] at hs
    rcases hs with ⟨y, hy, hb2⟩ | ⟨y, hy, hy2, _⟩
    · obtain ⟨x, hx, rfl⟩ := List.mem_map.1 hy
      have h1 := (h x hx).1
      have h2 := hb x hx
      simp [badLit] at hb2
      omega
    · obtain ⟨x, hx, rfl⟩ := List.mem_map.1 hy
      obtain ⟨z, hz, e2⟩ := List.mem_map.1 hy2
      have : z = -x := by omega
      subst this
      exact (h x hx).no (h _ hz)
  | some c =>
    refine ⟨c, rfl, ?_⟩
    have hs := norm_spec (used.map fun x => -x)
    rw [e] at hs
    unfold failsB
    rw [List.all_eq_true]
    intro z hz
    obtain ⟨x, hx, rfl⟩ := List.mem_map.1 ((hs.2.1 z).1 hz)
    exact (h x hx).false

theorem bound_asm {f : Form} {val : List Int} {j : Nat} {x : Int} (hq : SmallQ f) (hv : OkV f val) (h : val[j]? = some x) (hx : x ≠ 0) (hj : j < f.atoms.length) :
    ∃ d, bound f.atoms x = some d ∧ 0 ≤ d.x ∧ d.x < f.ints ∧ 0 ≤ d.y ∧ d.y < f.ints ∧ d.x ≠ d.y ∧ -5 ≤ d.c ∧ d.c ≤ 5 := by
  obtain ⟨⟨a, b, c⟩, hd⟩ : ∃ d, f.atoms[j]? = some d := ⟨_, List.getElem?_eq_getElem hj⟩
  obtain ⟨h1, h2, h3⟩ := hq.at_ _ (List.mem_of_getElem? hd)
  obtain ⟨k1, k2, k3, k4, k5, k6, k7⟩ := okAtom_iff.1 h1
  simp only at h2 h3
  rcases hv.2 j x h with h | h | h
  · exact absurd h hx
  · subst h
    exact ⟨⟨a, b, c⟩, by rw [bound_pos]; exact hd, k1, k2, k3, k4, k5, by simp only; omega, by simp only; omega⟩
  · subst h
    exact ⟨Diff.opp ⟨a, b, c⟩, by rw [bound_neg, hd]; rfl, k3, k4, k1, k2, fun e => k5 e.symm, by simp only [Diff.opp]; omega, by simp only [Diff.opp]; omega⟩

/-- No clause fails, and the constraints of the assumed literals have a solution. -/
def NoConf (f : Form) (val : List Int) : Prop :=
  (∀ xs ∈ f.clauses, ∀ n, norm xs = some n → failsB val n = false) ∧ ∃ l sol, bnds f.atoms (asg f val) = some l ∧ ∀ d ∈ l, gi sol d.x ≤ gi sol d.y + d.c
/- PLAIN LAW: refutations by cases: what each turn of refute leaves. No program. -/
theorem runS_append {f : Form} {a cs : List (List Int)} {l : List Stp} (h : runS f a l = (cs, true)) (r : List Stp) : runS f a (l ++ r) = runS f cs r := by
  induction l generalizing a with
  | nil => rw [runS] at h; injection h with h _; rw [h]; rfl
  | cons s l ih =>
    rw [runS] at h
    rw [List.cons_append, runS]
    cases e : deriv f s a with
    | none => rw [e] at h; injection h with _ h; cases h
    | some c => rw [e] at h; exact ih h
theorem runS_lenT {f : Form} {a cs : List (List Int)} {l : List Stp} (h : runS f a l = (cs, true)) : cs.length = a.length + l.length := by
  induction l generalizing a with
  | nil => rw [runS] at h; injection h with h _; rw [h]; simp
  | cons s l ih =>
    rw [runS] at h
    cases e : deriv f s a with
    | none => rw [e] at h; injection h with _ h; cases h
    | some c => rw [e] at h; have := ih h; simp at this ⊢; omega
theorem runS_norm {f : Form} {a cs : List (List Int)} {l : List Stp} (h : runS f a l = (cs, true)) (ha : ∀ c ∈ a, ∃ xs, norm xs = some c) : ∀ c ∈ cs, ∃ xs, norm xs = some c := by
  induction l generalizing a with
  | nil => rw [runS] at h; injection h with h _; rw [← h]; exact ha
  | cons s l ih =>
    rw [runS] at h
    cases e : deriv f s a with
    | none => rw [e] at h; injection h with _ h; cases h
    | some c =>
      rw [e] at h
      refine ih h fun c' hc => ?_
      rcases List.mem_append.1 hc with hc | hc
      · exact ha c' hc
      · simp at hc; subst hc; exact deriv_norm e

/-- Steps that are right, with their clauses. -/
def Good (f : Form) (ps : List Stp) (cs : List (List Int)) : Prop := runS f [] ps = (cs, true)
theorem Good.nil (f : Form) : Good f [] [] := rfl
theorem Good.snoc {f : Form} {ps : List Stp} {cs : List (List Int)} {s : Stp} {c : List Int} (h : Good f ps cs) (hd : deriv f s cs = some c) : Good f (ps ++ [s]) (cs ++ [c]) := by
  unfold Good at h ⊢
  rw [runS_append h, runS, hd]
  rfl
theorem Good.len {f : Form} {ps : List Stp} {cs : List (List Int)} (h : Good f ps cs) : cs.length = ps.length := by
  have := runS_lenT h; simpa using this

/-- A clause in normal form. -/
def Nrm (c : List Int) : Prop := Up c ∧ ∀ x ∈ c, badLit x = false
theorem nrm_of {xs c : List Int} (h : norm xs = some c) : Nrm c := by
  have hs := norm_spec xs
  rw [h] at hs
  exact ⟨hs.1, fun x hx => hs.2.2 x ((hs.2.1 x).1 hx)⟩
theorem Nrm.nz {c : List Int} (h : Nrm c) {x : Int} (hx : x ∈ c) : x ≠ 0 := by
  intro e; have := h.2 x hx; rw [e] at this; cases this
theorem Good.nrm {f : Form} {ps : List Stp} {cs : List (List Int)} (h : Good f ps cs) {c : List Int} (hc : c ∈ cs) : Nrm c := by
  obtain ⟨xs, hx⟩ := runS_norm h (by simp) c hc
  exact nrm_of hx

theorem failsB_iff {val c : List Int} : failsB val c = true ↔ ∀ x ∈ c, val.getD (x.natAbs - 1) 0 = -x := by
  unfold failsB falseB
  rw [List.all_eq_true]
  simp
/-- A clause that fails under one more assumption, and does not deny it, fails without it. -/
theorem fails_less {val c : List Int} {v : Nat} {a : Int} (h : failsB (val.set v a) c = true) (hn : -a ∉ c) (hv : v < val.length) : failsB val c = true := by
  rw [failsB_iff] at h ⊢
  intro x hx
  have h1 := h x hx
  rw [List.getD_eq_getElem?_getD, List.getElem?_set] at h1
  split at h1
  · rename_i e
    simp only [Option.getD_some] at h1
    exact absurd hx (by rw [show x = -a by omega]; exact hn)
  · rw [List.getD_eq_getElem?_getD]; exact h1
/-- The two cases resolved. -/
theorem res_fails {val cp cq : List Int} {v : Nat} (hv : v < val.length) (h24 : v < 1024) (hp : failsB (val.set v ((v : Int) + 1)) cp = true) (hq : failsB (val.set v (-((v : Int) + 1))) cq = true) (np : Nrm cp) (nq : Nrm cq) (mp : -((v : Int) + 1) ∈ cp) (mq : (v : Int) + 1 ∈ cq) :
    ∃ c, res cq cp v = some c ∧ failsB val c = true := by
  have key : ∀ x ∈ cq.filter (fun x => decide (x ≠ (v : Int) + 1)) ++ cp.filter (fun x => decide (x ≠ -((v : Int) + 1))), val.getD (x.natAbs - 1) 0 = -x ∧ badLit x = false := by
    intro x hx
    rcases List.mem_append.1 hx with hx | hx
    · obtain ⟨h1, h2⟩ := List.mem_filter.1 hx
      refine ⟨?_, nq.2 x h1⟩
      have h3 := failsB_iff.1 hq x h1
      rw [List.getD_eq_getElem?_getD, List.getElem?_set] at h3
      split at h3
      · simp only [Option.getD_some] at h3
        exact absurd (show x = (v : Int) + 1 by omega) (by simpa using h2)
      · rw [List.getD_eq_getElem?_getD]; exact h3
    · obtain ⟨h1, h2⟩ := List.mem_filter.1 hx
      refine ⟨?_, np.2 x h1⟩
      have h3 := failsB_iff.1 hp x h1
      rw [List.getD_eq_getElem?_getD, List.getElem?_set] at h3
      split at h3
      · simp only [Option.getD_some] at h3
        exact absurd (show x = -((v : Int) + 1) by omega) (by simpa using h2)
      · rw [List.getD_eq_getElem?_getD]; exact h3
  have hr : res cq cp v = norm (cq.filter (fun x => decide (x ≠ (v : Int) + 1)) ++ cp.filter (fun x => decide (x ≠ -((v : Int) + 1)))) := by
    unfold res
    rw [if_pos ⟨by omega, by omega, mq, mp⟩]
  rw [hr]
  generalize cq.filter (fun x => decide (x ≠ (v : Int) + 1)) ++ cp.filter (fun x => decide (x ≠ -((v : Int) + 1))) = zs at key
  have hs := norm_spec zs
  cases e : norm zs with
  | none =>
    exfalso
    rw [e] at hs
    rcases hs with ⟨y, hy, hb⟩ | ⟨y, hy, hy2, h0⟩
    · rw [(key y hy).2] at hb; cases hb
    · have h1 := (key y hy).1
      have h2 := (key _ hy2).1
      have h3 := (key y hy).2
      rw [show (-y).natAbs - 1 = y.natAbs - 1 by omega, h1] at h2
      have : y = 0 := by omega
      rw [this] at h3; cases h3
  | some c =>
    rw [e] at hs
    exact ⟨c, rfl, failsB_iff.2 fun x hx => (key x ((hs.2.1 x).1 hx)).1⟩
/-- Where nothing is assumed, only the empty clause fails. -/
theorem fails_zero {n : Nat} {c : List Int} (h : failsB (List.replicate n 0) c = true) (hz : Nrm c) : c = [] := by
  cases c with
  | nil => rfl
  | cons x r =>
    exfalso
    have h1 := failsB_iff.1 h x (by simp)
    have h2 := hz.nz (x := x) (by simp)
    rw [List.getD_eq_getElem?_getD, List.getElem?_replicate] at h1
    split at h1 <;> simp at h1 <;> omega

/-- How many booleans have no assumption. -/
def free (val : List Int) : Nat := (val.filter fun x => x == 0).length
theorem free_set {val : List Int} {v : Nat} {a : Int} (h : val[v]? = some 0) (ha : a ≠ 0) : free (val.set v a) + 1 = free val := by
  induction val generalizing v with
  | nil => simp at h
  | cons x r ih =>
    cases v with
    | zero =>
      simp at h; subst h
      simp [free, ha]
    | succ v =>
      rw [List.getElem?_cons_succ] at h
      have := ih h
      unfold free at this ⊢
      rw [List.set_cons_succ, List.filter_cons, List.filter_cons]
      split
      · simp at this ⊢; omega
      · exact this
theorem free_zero {val : List Int} (h : free val = 0) : ∀ x ∈ val, x ≠ 0 := by
  intro x hx e
  subst e
  have := List.length_eq_zero_iff.1 h
  rw [List.filter_eq_nil_iff] at this
  exact this 0 hx (by simp)
theorem OkV.set {f : Form} {val : List Int} {v : Nat} {a : Int} (h : OkV f val) (ha : a = 0 ∨ a = (v : Int) + 1 ∨ a = -((v : Int) + 1)) : OkV f (val.set v a) := by
  refine ⟨by simpa using h.1, fun i x hx => ?_⟩
  rw [List.getElem?_set] at hx
  split at hx
  · rename_i e
    split at hx
    · injection hx with hx; subst hx e; exact ha
    · cases hx
  · exact h.2 i x hx

/-- A model by the full assumptions: no clause fails and the constraints have the solution sol. -/
def mdlB (val : List Int) : List Bool := val.map fun x => decide (0 < x)
theorem mdl_holds {f : Form} {val : List Int} (hv : OkV f val) (hn : ∀ x ∈ val, x ≠ 0) {x : Int} (hx : okLit f.bools x = true) (h : val.getD (x.natAbs - 1) 0 ≠ -x) : holds (mdlB val) x = true := by
  obtain ⟨h0, h1, h2⟩ := okLit_iff.1 hx
  have hl := hv.1
  have hlt : x.natAbs - 1 < val.length := by omega
  have hg : val[x.natAbs - 1]? = some val[x.natAbs - 1] := List.getElem?_eq_getElem hlt
  have hz := hn _ (List.getElem_mem hlt)
  have ho := hv.2 _ _ hg
  rw [List.getD_eq_getElem?_getD, hg, Option.getD_some] at h
  have he : val[x.natAbs - 1] = x := by omega
  rw [he] at hg
  clear he hz ho h
  rcases lit_cases x with e | ⟨n, e⟩ | ⟨n, e⟩
  · exact absurd e h0
  · have hn2 : x.natAbs - 1 = n := by omega
    rw [hn2, e] at hg
    rw [e, holds_pos, List.getD_eq_getElem?_getD, mdlB, List.getElem?_map, hg]
    simp
  · have hn2 : x.natAbs - 1 = n := by omega
    rw [hn2, e] at hg
    rw [e, holds_neg, mdlB, List.getElem?_map, hg]
    simp; omega
theorem mdl_clause {f : Form} {val : List Int} (hq : SmallQ f) (hv : OkV f val) (hn : ∀ x ∈ val, x ≠ 0) (hc : NoConf f val) {xs : List Int} (hx : xs ∈ f.clauses) : xs.any (holds (mdlB val)) = true := by
  have hs := norm_spec xs
  cases e : norm xs with
  | none =>
    rw [e] at hs
    rcases hs with ⟨y, hy, hb⟩ | ⟨y, hy, hy2, h0⟩
    · exfalso
      have h1 := okLit_iff.1 ((hq.cs xs hx).2 y hy)
      have := hq.bl
      simp [badLit] at hb
      omega
    · by_cases h : val.getD (y.natAbs - 1) 0 = -y
      · rw [List.any_eq_true]
        refine ⟨-y, hy2, mdl_holds hv hn ((hq.cs xs hx).2 _ hy2) ?_⟩
        rw [show (-y).natAbs - 1 = y.natAbs - 1 by omega, h]
        have := (okLit_iff.1 ((hq.cs xs hx).2 y hy)).1
        omega
      · rw [List.any_eq_true]
        exact ⟨y, hy, mdl_holds hv hn ((hq.cs xs hx).2 _ hy) h⟩
  | some c =>
    rw [e] at hs
    have h1 := hc.1 xs hx c e
    rw [failsB, List.all_eq_false] at h1
    obtain ⟨y, hy, h2⟩ := h1
    have hm := (hs.2.1 y).1 hy
    rw [List.any_eq_true]
    refine ⟨y, hm, mdl_holds hv hn ((hq.cs xs hx).2 _ hm) ?_⟩
    simpa [falseB] using h2
/- PLAIN LAW: each clause of right steps holds in every model of the formula. No program. -/
/-- The booleans of atoms say whether their constraints hold. -/
def Fits (atoms : List Diff) (bs : List Bool) (xs : List Int) : Prop := ∀ (i : Nat) (d : Diff), atoms[i]? = some d → bs[i]? = some (decide (gi xs d.x - gi xs d.y ≤ d.c))

theorem holds_bound {atoms : List Diff} {bs : List Bool} {xs : List Int} (hf : Fits atoms bs xs) {lit : Int} {d : Diff} (hb : bound atoms lit = some d) : (holds bs lit = true ∧ gi xs d.x - gi xs d.y ≤ d.c) ∨ holds bs (-lit) = true := by
  rcases lit_cases lit with rfl | ⟨n, rfl⟩ | ⟨n, rfl⟩
  · rw [bound_zero] at hb; cases hb
  · rw [bound_pos] at hb
    have h1 := hf n d hb
    by_cases h : gi xs d.x - gi xs d.y ≤ d.c
    · refine .inl ⟨?_, h⟩
      rw [holds_pos, List.getD_eq_getElem?_getD, h1]; simp [h]
    · refine .inr ?_
      rw [holds_neg, h1]; simp [h]
  · rw [bound_neg] at hb
    obtain ⟨a, ha, rfl⟩ := Option.map_eq_some_iff.1 hb
    have h1 := hf n a ha
    by_cases h : gi xs a.x - gi xs a.y ≤ a.c
    · refine .inr ?_
      rw [show -(-((n : Int) + 1)) = (n : Int) + 1 by omega, holds_pos, List.getD_eq_getElem?_getD, h1]; simp [h]
    · refine .inl ⟨?_, ?_⟩
      · rw [holds_neg, h1]; simp [h]
      · simp only [Diff.opp]; omega

/-- The differences along a chain add up to the difference of its ends. -/
theorem chain_sum (X : Int → Int) (ds : List Diff) (d0 : Diff) (h : ∀ (i : Nat) (a b : Diff), (d0 :: ds)[i]? = some a → (d0 :: ds)[i + 1]? = some b → a.y = b.x) :
    ((d0 :: ds).map fun d => X d.x - X d.y).sum = X d0.x - X ((d0 :: ds).getLast (by simp)).y := by
  induction ds generalizing d0 with
  | nil => simp
  | cons d1 r ih =>
    have h01 := h 0 d0 d1 rfl rfl
    have := ih d1 fun i a b h1 h2 => h (i + 1) a b h1 h2
    rw [List.map_cons, List.sum_cons, this, List.getLast_cons (List.cons_ne_nil d1 r), h01]
    omega
theorem cyc_sum (X : Int → Int) {ds : List Diff} (h : Linked ds ds.length) : (ds.map fun d => X d.x - X d.y).sum = 0 := by
  cases ds with
  | nil => rfl
  | cons d0 r =>
    rw [chain_sum X r d0 fun i a b h1 h2 => ?_]
    · have hlast : (d0 :: r)[r.length]? = some ((d0 :: r).getLast (by simp)) := by
        rw [List.getLast_eq_getElem]; simp
      have := h r.length _ d0 (by simp) hlast (by simp)
      rw [this]; omega
    · have hi := (List.getElem?_eq_some_iff.1 h2).1
      refine h i a b (by omega) h1 ?_
      rw [Nat.mod_eq_of_lt hi]; exact h2
theorem sum_le_map {α : Type} (p q : α → Int) (l : List α) (h : ∀ d ∈ l, p d ≤ q d) : (l.map p).sum ≤ (l.map q).sum := by
  induction l with
  | nil => simp
  | cons d r ih =>
    have h1 := h d (by simp)
    have h2 := ih fun d hd => h d (by simp [hd])
    simp only [List.map_cons, List.sum_cons]
    omega
theorem cyc_no (X : Int → Int) {ds : List Diff} (h : Cyc ds) : ∃ d ∈ ds, ¬ X d.x - X d.y ≤ d.c := by
  apply Classical.byContradiction
  intro hn
  have h1 := cyc_sum X h.2.1
  have h2 := sum_le_map (fun d : Diff => X d.x - X d.y) (fun d : Diff => d.c) ds fun d hd => Classical.byContradiction fun hc => hn ⟨d, hd, hc⟩
  have h3 := h.2.2
  unfold csum at h3
  have e : (ds.map fun d : Diff => d.c) = ds.map Diff.c := rfl
  rw [e] at h2
  omega

theorem norm_any {xs c : List Int} (h : norm xs = some c) (p : Int → Bool) : c.any p = xs.any p := by
  have hs := norm_spec xs
  rw [h] at hs
  rw [Bool.eq_iff_iff, List.any_eq_true, List.any_eq_true]
  exact ⟨fun ⟨x, h1, h2⟩ => ⟨x, (hs.2.1 x).1 h1, h2⟩, fun ⟨x, h1, h2⟩ => ⟨x, (hs.2.1 x).2 h1, h2⟩⟩

theorem bnds_mem {atoms : List Diff} {lits : List Int} {ds : List Diff} (h : bnds atoms lits = some ds) {d : Diff} (hd : d ∈ ds) : ∃ x ∈ lits, bound atoms x = some d := by
  have h1 := bnds_some.1 h
  have h2 : some d ∈ ds.map some := List.mem_map.2 ⟨d, hd, rfl⟩
  rw [← h1] at h2
  obtain ⟨x, h3, h4⟩ := List.mem_map.1 h2
  exact ⟨x, h3, h4⟩

theorem holds_one (bs : List Bool) (v : Int) (h : holds bs v = true) : holds bs (-v) = false := by
  rcases lit_cases v with rfl | ⟨n, rfl⟩ | ⟨n, rfl⟩
  · rfl
  · rw [holds_pos, List.getD_eq_getElem?_getD] at h
    rw [holds_neg]
    cases e : bs[n]? with
    | none => rfl
    | some b => rw [e] at h; simp at h; simp [h]
  · rw [holds_neg] at h
    rw [show -(-((n : Int) + 1)) = (n : Int) + 1 by omega, holds_pos, List.getD_eq_getElem?_getD]
    cases e : bs[n]? with
    | none => rw [e] at h; cases h
    | some b => rw [e] at h; simp at h; simp [h]

theorem deriv_holds {f : Form} {bs : List Bool} {xs : List Int} (hf : Fits f.atoms bs xs) (hc : ∀ c ∈ f.clauses, c.any (holds bs) = true) {s : Stp} {cs : List (List Int)} (hcs : ∀ c ∈ cs, c.any (holds bs) = true) {c : List Int} (h : deriv f s cs = some c) : c.any (holds bs) = true := by
  unfold deriv at h
  split at h
  · split at h
    · obtain ⟨a, h1, h2⟩ := Option.bind_eq_some_iff.1 h
      rw [norm_any h2]
      exact hc a (List.mem_of_getElem? h1)
    · cases h
  · split at h
    · unfold cyc at h
      split at h
      · rename_i ds hds
        split at h
        · rename_i hcy
          rw [norm_any h, List.any_eq_true]
          obtain ⟨d, hd, hno⟩ := cyc_no (gi xs) (show Cyc ds from by simpa [cycB] using hcy)
          obtain ⟨x, hx, hbx⟩ := bnds_mem hds hd
          rcases holds_bound hf hbx with ⟨_, h2⟩ | h2
          · exact absurd h2 hno
          · exact ⟨-x, List.mem_map.2 ⟨x, hx, rfl⟩, h2⟩
        · cases h
      · cases h
    · split at h
      · split at h
        · obtain ⟨a, h1, h2⟩ := Option.bind_eq_some_iff.1 h
          obtain ⟨b, h3, h4⟩ := Option.bind_eq_some_iff.1 h2
          unfold res at h4
          split at h4
          · rw [norm_any h4]
            have ha := hcs a (List.mem_of_getElem? h1)
            have hb := hcs b (List.mem_of_getElem? h3)
            rw [List.any_eq_true] at ha hb ⊢
            obtain ⟨x, hx, hx2⟩ := ha
            obtain ⟨y, hy, hy2⟩ := hb
            by_cases e1 : x = s.var + 1
            · by_cases e2 : y = -(s.var + 1)
              · subst e1 e2
                have := holds_one bs _ hx2
                rw [this] at hy2; cases hy2
              · exact ⟨y, List.mem_append_right _ (List.mem_filter.2 ⟨hy, by simpa using e2⟩), hy2⟩
            · exact ⟨x, List.mem_append_left _ (List.mem_filter.2 ⟨hx, by simpa using e1⟩), hx2⟩
          · cases h4
        · cases h
      · cases h
theorem runS_holds {f : Form} {bs : List Bool} {xs : List Int} (hf : Fits f.atoms bs xs) (hc : ∀ c ∈ f.clauses, c.any (holds bs) = true) {a cs : List (List Int)} {l : List Stp} {b : Bool} (h : runS f a l = (cs, b)) (ha : ∀ c ∈ a, c.any (holds bs) = true) : ∀ c ∈ cs, c.any (holds bs) = true := by
  induction l generalizing a with
  | nil => rw [runS] at h; injection h with h _; rw [← h]; exact ha
  | cons s l ih =>
    rw [runS] at h
    cases e : deriv f s a with
    | none => rw [e] at h; injection h with h _; rw [← h]; exact ha
    | some c =>
      rw [e] at h
      refine ih h fun c' hc' => ?_
      rcases List.mem_append.1 hc' with hc' | hc'
      · exact ha c' hc'
      · simp at hc'; subst hc'; exact deriv_holds hf hc ha e
/- PLAIN LAW: the needed steps of a refutation. No program. -/
def s0 : Stp := ⟨0, 0, [], 0, 0, 0⟩
def ndStep (l : List Stp) (nd : List Bool) (i : Nat) : List Bool :=
  if nd.getD i false = true ∧ (l.getD i s0).kind = 3 then (nd.set (l.getD i s0).p.toNat true).set (l.getD i s0).q.toNat true else nd
/-- Which steps are needed, as far as the last j steps say. -/
def ndFrom (l : List Stp) : Nat → List Bool
  | 0 => (List.replicate l.length false).set (l.length - 1) true
  | j + 1 => ndStep l (ndFrom l j) (l.length - 1 - j)
def nd (l : List Stp) : List Bool := ndFrom l l.length

/-- A step with the fields that its kind uses. -/
def bareS (s : Stp) (pl : List Int) : Stp :=
  if s.kind = 1 then ⟨s.kind, s.index, [], 0, 0, 0⟩ else if s.kind = 2 then ⟨s.kind, 0, s.lits, 0, 0, 0⟩ else ⟨s.kind, 0, [], gi pl s.p, gi pl s.q, s.var⟩
/-- The new indices, and the trimmed steps, of the first k steps. -/
def trTo (l : List Stp) (n : List Bool) : Nat → List Int × List Stp
  | 0 => (List.replicate l.length 0, [])
  | k + 1 => if n.getD k false = true then ((trTo l n k).1.set k ((trTo l n k).2.length : Int), (trTo l n k).2 ++ [bareS (l.getD k s0) ((trTo l n k).1.set k ((trTo l n k).2.length : Int))]) else trTo l n k
def trim (l : List Stp) : List Stp := (trTo l (nd l) l.length).2

/-- A resolution names earlier steps. -/
def Back (l : List Stp) : Prop := ∀ (i : Nat), i < l.length → (l.getD i s0).kind = 3 → 0 ≤ (l.getD i s0).p ∧ (l.getD i s0).p < i ∧ 0 ≤ (l.getD i s0).q ∧ (l.getD i s0).q < i

theorem getD_set {α : Type} (l : List α) (i j : Nat) (a z : α) : (l.set i a).getD j z = if i = j ∧ j < l.length then a else l.getD j z := by
  rw [List.getD_eq_getElem?_getD, List.getElem?_set, List.getD_eq_getElem?_getD]
  by_cases h : i = j
  · subst h
    by_cases h2 : i < l.length
    · simp [h2]
    · simp [h2]
  · simp [h]

theorem ndStep_len (l : List Stp) (n : List Bool) (i : Nat) : (ndStep l n i).length = n.length := by unfold ndStep; split <;> simp
theorem ndFrom_len (l : List Stp) (j : Nat) : (ndFrom l j).length = l.length := by
  induction j with
  | zero => simp [ndFrom]
  | succ j ih => rw [ndFrom, ndStep_len, ih]
theorem ndStep_mono {l : List Stp} {n : List Bool} {i m : Nat} (h : n.getD m false = true) : (ndStep l n i).getD m false = true := by
  unfold ndStep
  split
  · rw [getD_set]
    split
    · rfl
    · rw [getD_set]
      split
      · rfl
      · exact h
  · exact h
theorem ndFrom_mono {l : List Stp} {j k m : Nat} (hjk : j ≤ k) (h : (ndFrom l j).getD m false = true) : (ndFrom l k).getD m false = true := by
  induction k with
  | zero => obtain rfl : j = 0 := by omega
            exact h
  | succ k ih =>
    by_cases e : j = k + 1
    · rw [← e]; exact h
    · rw [ndFrom]; exact ndStep_mono (ih (by omega))
theorem nd_last {l : List Stp} (h : 0 < l.length) (j : Nat) : (ndFrom l j).getD (l.length - 1) false = true := by
  refine ndFrom_mono (Nat.zero_le j) ?_
  rw [ndFrom, getD_set, if_pos ⟨rfl, by simp; omega⟩]
/-- What the later steps say of a step from k on is not turned by the steps ahead. -/
theorem ndStep_at {l : List Stp} (hb : Back l) {n : List Bool} {i m : Nat} (hi : i < l.length) (hm : i ≤ m) : (ndStep l n i).getD m false = n.getD m false := by
  unfold ndStep
  split
  · rename_i h
    obtain ⟨h1, h2, h3, h4⟩ := hb i hi h.2
    rw [getD_set, if_neg (by omega), getD_set, if_neg (by omega)]
  · rfl
theorem nd_fix {l : List Stp} (hb : Back l) {i j : Nat} (hi : i < l.length) (hj : l.length - i ≤ j + 1) (hj2 : j ≤ l.length) : (ndFrom l j).getD i false = (ndFrom l (l.length - 1 - i)).getD i false := by
  induction j with
  | zero => rw [show l.length - 1 - i = 0 by omega]
  | succ j ih =>
    by_cases e : l.length - i ≤ j + 1
    · rw [ndFrom, ndStep_at hb (by omega) (by omega)]
      exact ih e (by omega)
    · rw [show l.length - 1 - i = j + 1 by omega]
theorem nd_closed {l : List Stp} (hb : Back l) {i : Nat} (hi : i < l.length) (h : (nd l).getD i false = true) (hk : (l.getD i s0).kind = 3) : (nd l).getD (l.getD i s0).p.toNat false = true ∧ (nd l).getD (l.getD i s0).q.toNat false = true := by
  obtain ⟨h1, h2, h3, h4⟩ := hb i hi hk
  unfold nd at h ⊢
  rw [nd_fix hb hi (by omega) (Nat.le_refl _)] at h
  have e : ndFrom l (l.length - 1 - i + 1) = ((ndFrom l (l.length - 1 - i)).set (l.getD i s0).p.toNat true).set (l.getD i s0).q.toNat true := by
    rw [ndFrom, show l.length - 1 - (l.length - 1 - i) = i by omega, ndStep, if_pos ⟨h, hk⟩]
  have hl := ndFrom_len l (l.length - 1 - i)
  constructor
  · refine ndFrom_mono (j := l.length - 1 - i + 1) (by omega) ?_
    rw [e, getD_set]
    split
    · rfl
    · rw [getD_set, if_pos ⟨rfl, by omega⟩]
  · refine ndFrom_mono (j := l.length - 1 - i + 1) (by omega) ?_
    rw [e, getD_set, if_pos ⟨rfl, by rw [List.length_set]; omega⟩]
theorem nd_least {l : List Stp} (hb : Back l) {j m : Nat} (hj : j ≤ l.length) (h : (ndFrom l j).getD m false = true) : m = l.length - 1 ∨ ∃ i, m < i ∧ i < l.length ∧ (ndFrom l j).getD i false = true ∧ (l.getD i s0).kind = 3 ∧ (m = (l.getD i s0).p.toNat ∨ m = (l.getD i s0).q.toNat) := by
  induction j with
  | zero =>
    left
    rw [ndFrom, getD_set] at h
    split at h
    · rename_i e; exact e.1.symm
    · rw [List.getD_eq_getElem?_getD, List.getElem?_replicate] at h
      split at h <;> cases h
  | succ j ih =>
    have keep : (ndFrom l j).getD m false = true → m = l.length - 1 ∨ ∃ i, m < i ∧ i < l.length ∧ (ndFrom l (j + 1)).getD i false = true ∧ (l.getD i s0).kind = 3 ∧ (m = (l.getD i s0).p.toNat ∨ m = (l.getD i s0).q.toNat) := fun h => by
      rcases ih (by omega) h with e | ⟨i, h1, h2, h3, h4, h5⟩
      · exact .inl e
      · exact .inr ⟨i, h1, h2, ndFrom_mono (Nat.le_succ j) h3, h4, h5⟩
    have h' := h
    rw [ndFrom, ndStep] at h'
    split at h'
    · rename_i e
      obtain ⟨b1, b2, b3, b4⟩ := hb (l.length - 1 - j) (by omega) e.2
      have hme : (ndFrom l (j + 1)).getD (l.length - 1 - j) false = true := ndFrom_mono (Nat.le_succ j) e.1
      rw [getD_set] at h'
      split at h'
      · rename_i e2
        exact .inr ⟨l.length - 1 - j, by omega, by omega, hme, e.2, .inr e2.1.symm⟩
      · rw [getD_set] at h'
        split at h'
        · rename_i e2
          exact .inr ⟨l.length - 1 - j, by omega, by omega, hme, e.2, .inl e2.1.symm⟩
        · exact keep h'
    · exact keep h'

/-- The needed indices below k; how many there are. -/
def ndIx (n : List Bool) (k : Nat) : List Nat := (List.range k).filter fun i => n.getD i false
def rk (n : List Bool) (k : Nat) : Nat := (ndIx n k).length
theorem ndIx_yes {n : List Bool} {k : Nat} (h : n.getD k false = true) : ndIx n (k + 1) = ndIx n k ++ [k] := by
  unfold ndIx; rw [List.range_succ, List.filter_append]; simp only [List.filter_cons, h, if_true, List.filter_nil]
theorem ndIx_no {n : List Bool} {k : Nat} (h : ¬ n.getD k false = true) : ndIx n (k + 1) = ndIx n k := by
  unfold ndIx; rw [List.range_succ, List.filter_append]; simp only [List.filter_cons, h, List.filter_nil]; simp
theorem rk_mono (n : List Bool) {j k : Nat} (h : j ≤ k) : rk n j ≤ rk n k := by
  induction k with
  | zero => obtain rfl : j = 0 := by omega
            exact Nat.le_refl _
  | succ k ih =>
    by_cases e : j = k + 1
    · rw [e]; exact Nat.le_refl _
    · refine Nat.le_trans (ih (by omega)) ?_
      unfold rk
      by_cases hk : n.getD k false = true
      · rw [ndIx_yes hk]; simp
      · rw [ndIx_no hk]; exact Nat.le_refl _
theorem rk_lt {n : List Bool} {j k : Nat} (h : j < k) (hj : n.getD j false = true) : rk n j < rk n k := by
  refine Nat.lt_of_lt_of_le ?_ (rk_mono n (show j + 1 ≤ k from h))
  unfold rk
  rw [ndIx_yes hj]; simp
theorem rk_le (n : List Bool) (k : Nat) : rk n k ≤ k := by
  unfold rk ndIx
  exact Nat.le_trans (List.length_filter_le _ _) (by simp)
theorem ndIx_at {n : List Bool} {j k : Nat} (h : j < k) (hj : n.getD j false = true) : (ndIx n k)[rk n j]? = some j := by
  induction k with
  | zero => omega
  | succ k ih =>
    by_cases e : j = k
    · subst e
      rw [ndIx_yes hj]
      unfold rk
      rw [List.getElem?_append_right (Nat.le_refl _)]; simp
    · have h1 := ih (by omega)
      have hlt := (List.getElem?_eq_some_iff.1 h1).1
      by_cases hk : n.getD k false = true
      · rw [ndIx_yes hk, List.getElem?_append_left hlt]; exact h1
      · rw [ndIx_no hk]; exact h1
theorem ndIx_mem {n : List Bool} {j k : Nat} (h : j ∈ ndIx n k) : j < k ∧ n.getD j false = true := by
  unfold ndIx at h
  obtain ⟨h1, h2⟩ := List.mem_filter.1 h
  exact ⟨by simpa using h1, h2⟩

/-- The step with the new indices by their count. -/
def bareR (n : List Bool) (s : Stp) : Stp :=
  if s.kind = 1 then ⟨s.kind, s.index, [], 0, 0, 0⟩ else if s.kind = 2 then ⟨s.kind, 0, s.lits, 0, 0, 0⟩ else ⟨s.kind, 0, [], rk n s.p.toNat, rk n s.q.toNat, s.var⟩
theorem bareR_kind (n : List Bool) (s : Stp) : (bareR n s).kind = s.kind := by unfold bareR; split <;> (try split) <;> rfl

/-- Kinds of steps that can be right. -/
def Kinds (l : List Stp) : Prop := ∀ i, i < l.length → (l.getD i s0).kind = 1 ∨ (l.getD i s0).kind = 2 ∨ (l.getD i s0).kind = 3
theorem trTo_len (l : List Stp) (n : List Bool) (k : Nat) : (trTo l n k).1.length = l.length := by
  induction k with
  | zero => simp [trTo]
  | succ k ih => rw [trTo]; split <;> simp [ih]
theorem trTo_is {l : List Stp} (hb : Back l) (hkd : Kinds l) {k : Nat} (hk : k ≤ l.length) : (∀ i, i < k → (nd l).getD i false = true → gi (trTo l (nd l) k).1 i = (rk (nd l) i : Int)) ∧ (trTo l (nd l) k).2 = (ndIx (nd l) k).map fun i => bareR (nd l) (l.getD i s0) := by
  induction k with
  | zero => exact ⟨fun i h => by omega, rfl⟩
  | succ k ih =>
    obtain ⟨h1, h2⟩ := ih (by omega)
    by_cases h : (nd l).getD k false = true
    · have hl : (trTo l (nd l) k).2.length = rk (nd l) k := by rw [h2]; simp [rk]
      have hp : ∀ i, i < k + 1 → (nd l).getD i false = true → gi ((trTo l (nd l) k).1.set k ((trTo l (nd l) k).2.length : Int)) i = (rk (nd l) i : Int) := by
        intro i hi hn
        unfold gi
        rw [Int.toNat_natCast, getD_set, trTo_len]
        split
        · rename_i e; rw [hl, e.1]
        · have := h1 i (by omega) hn
          unfold gi at this
          rwa [Int.toNat_natCast] at this
      rw [trTo, if_pos h]
      refine ⟨hp, ?_⟩
      show (trTo l (nd l) k).2 ++ [bareS (l.getD k s0) ((trTo l (nd l) k).1.set k ((trTo l (nd l) k).2.length : Int))] = _
      rw [ndIx_yes h, List.map_append, ← h2, List.map_cons, List.map_nil]
      refine congrArg (fun s => (trTo l (nd l) k).2 ++ [s]) ?_
      unfold bareS bareR
      split
      · rfl
      · split
        · rfl
        · rename_i k1 k2
          have k3 : (l.getD k s0).kind = 3 := by rcases hkd k (by omega) with e | e | e <;> first | exact e | exact absurd e k1 | exact absurd e k2
          obtain ⟨b1, b2, b3, b4⟩ := hb k (by omega) k3
          obtain ⟨c1, c2⟩ := nd_closed hb (by omega) h k3
          have e1 := hp (l.getD k s0).p.toNat (by omega) c1
          have e2 := hp (l.getD k s0).q.toNat (by omega) c2
          rw [Int.toNat_of_nonneg b1] at e1
          rw [Int.toNat_of_nonneg b3] at e2
          rw [e1, e2]
    · rw [trTo, if_neg h, ndIx_no h]
      refine ⟨fun i hi hn => h1 i ?_ hn, h2⟩
      by_cases e : i = k
      · rw [e] at hn; exact absurd hn h
      · omega
theorem trim_is {l : List Stp} (hb : Back l) (hkd : Kinds l) : trim l = (ndIx (nd l) l.length).map fun i => bareR (nd l) (l.getD i s0) := (trTo_is hb hkd (Nat.le_refl _)).2

theorem runS_at {f : Form} {a cs : List (List Int)} {l : List Stp} (h : runS f a l = (cs, true)) {i : Nat} (hi : i < l.length) : ∃ c, cs[a.length + i]? = some c ∧ deriv f (l.getD i s0) (cs.take (a.length + i)) = some c := by
  induction l generalizing a i with
  | nil => simp at hi
  | cons s l ih =>
    rw [runS] at h
    cases e : deriv f s a with
    | none => rw [e] at h; injection h with _ h; cases h
    | some c =>
      rw [e] at h
      cases i with
      | zero =>
        have hpre : ∀ {a cs : List (List Int)} {l : List Stp}, runS f a l = (cs, true) → ∃ r, cs = a ++ r := by
          intro a cs l
          induction l generalizing a with
          | nil => intro h; rw [runS] at h; injection h with h _; exact ⟨[], by simp [h]⟩
          | cons s l ih =>
            intro h
            rw [runS] at h
            cases e : deriv f s a with
            | none => rw [e] at h; injection h with _ h; cases h
            | some c =>
              rw [e] at h
              obtain ⟨r, hr⟩ := ih h
              exact ⟨c :: r, by rw [hr]; simp⟩
        obtain ⟨r, hr⟩ := hpre h
        refine ⟨c, ?_, ?_⟩
        · rw [hr]; simp
        · rw [hr]; simpa using e
      | succ i =>
        obtain ⟨c', h1, h2⟩ := ih h (i := i) (by simpa using hi)
        refine ⟨c', ?_, ?_⟩
        · rw [← h1]; simp; congr 1; omega
        · rw [List.getD_cons_succ, show a.length + (i + 1) = (a ++ [c]).length + i by simp; omega]; exact h2
theorem Good.at_ {f : Form} {l : List Stp} {cs : List (List Int)} (h : Good f l cs) {i : Nat} (hi : i < l.length) : ∃ c, cs[i]? = some c ∧ deriv f (l.getD i s0) (cs.take i) = some c := by
  have := runS_at h hi
  simpa using this
theorem deriv_kind {f : Form} {s : Stp} {cs : List (List Int)} {c : List Int} (h : deriv f s cs = some c) : (s.kind = 1 ∨ s.kind = 2 ∨ s.kind = 3) ∧ (s.kind = 3 → 0 ≤ s.p ∧ s.p < cs.length ∧ 0 ≤ s.q ∧ s.q < cs.length) ∧ (s.kind = 1 → 0 ≤ s.index ∧ s.index < f.clauses.length) := by
  unfold deriv at h
  split at h
  · rename_i k1
    refine ⟨.inl k1, fun k3 => by omega, fun _ => ?_⟩
    split at h
    · rename_i h0
      obtain ⟨a, h1, _⟩ := Option.bind_eq_some_iff.1 h
      have := (List.getElem?_eq_some_iff.1 h1).1
      omega
    · cases h
  · rename_i k1
    split at h
    · rename_i k2
      exact ⟨.inr (.inl k2), fun k3 => by omega, fun e => absurd e k1⟩
    · split at h
      · rename_i k3
        refine ⟨.inr (.inr k3), fun _ => ?_, fun e => absurd e k1⟩
        split at h
        · obtain ⟨a, h1, h2⟩ := Option.bind_eq_some_iff.1 h
          obtain ⟨b, h3, _⟩ := Option.bind_eq_some_iff.1 h2
          have := (List.getElem?_eq_some_iff.1 h1).1
          have := (List.getElem?_eq_some_iff.1 h3).1
          omega
        · cases h
      · cases h
theorem Good.back {f : Form} {l : List Stp} {cs : List (List Int)} (h : Good f l cs) : Back l := fun i hi hk => by
  obtain ⟨c, h1, h2⟩ := h.at_ hi
  have h3 := (deriv_kind h2).2.1 hk
  have : (cs.take i).length ≤ i := List.length_take_le _ _
  omega
theorem Good.kinds {f : Form} {l : List Stp} {cs : List (List Int)} (h : Good f l cs) : Kinds l := fun i hi => by
  obtain ⟨c, h1, h2⟩ := h.at_ hi
  exact (deriv_kind h2).1

theorem trim_good {f : Form} {l : List Stp} {cs : List (List Int)} (h : Good f l cs) {k : Nat} (hk : k ≤ l.length) : Good f ((ndIx (nd l) k).map fun i => bareR (nd l) (l.getD i s0)) ((ndIx (nd l) k).map fun i => cs.getD i []) := by
  induction k with
  | zero => exact Good.nil f
  | succ k ih =>
    have hg := ih (by omega)
    by_cases hn : (nd l).getD k false = true
    · rw [ndIx_yes hn, List.map_append, List.map_append]
      obtain ⟨c, h1, h2⟩ := h.at_ (i := k) (by omega)
      have hc : cs.getD k [] = c := by rw [List.getD_eq_getElem?_getD, h1]; rfl
      rw [List.map_cons, List.map_nil, List.map_cons, List.map_nil, hc]
      refine hg.snoc ?_
      have hkd := deriv_kind h2
      have key : ∀ j, j < k → (nd l).getD j false = true → ((ndIx (nd l) k).map fun i => cs.getD i [])[rk (nd l) j]? = (cs.take k)[j]? := by
        intro j hj hnj
        rw [List.getElem?_map, ndIx_at hj hnj, List.getElem?_take, if_pos hj, Option.map_some, List.getD_eq_getElem?_getD]
        have : j < cs.length := by have := h.len; omega
        rw [List.getElem?_eq_getElem this]; rfl
      generalize hs : l.getD k s0 = s at h2 hkd
      unfold bareR
      unfold deriv at h2 ⊢
      split
      · rename_i k1
        simp only [k1, if_true] at h2 ⊢
        exact h2
      · rename_i k1
        split
        · rename_i k2
          simp only [k2, if_true] at h2 ⊢
          exact h2
        · rename_i k2
          have k3 : s.kind = 3 := by rcases hkd.1 with e | e | e <;> first | exact e | exact absurd e k1 | exact absurd e k2
          obtain ⟨b1, b2, b3, b4⟩ := hkd.2.1 k3
          have hlt : (cs.take k).length ≤ k := List.length_take_le _ _
          obtain ⟨c1, c2⟩ := nd_closed h.back (by omega) hn (by rw [hs]; exact k3)
          rw [hs] at c1 c2
          rw [if_neg k1, if_neg k2, if_pos k3, if_pos ⟨b1, b3⟩] at h2
          simp only [if_pos k3]
          rw [if_pos ⟨by omega, by omega⟩, Int.toNat_natCast, Int.toNat_natCast, key _ (by omega) c1, key _ (by omega) c2]
          exact h2
    · rw [ndIx_no hn]; exact hg

/-- The last clause is empty: a refutation. -/
def Refutes (f : Form) (l : List Stp) : Prop := ∃ cs, Good f l cs ∧ 0 < l.length ∧ cs.getD (l.length - 1) [] = []
theorem rk_pos {l : List Stp} (h0 : 0 < l.length) : 0 < rk (nd l) l.length := by
  have := rk_lt (n := nd l) (j := l.length - 1) (k := l.length) (by omega) (nd_last h0 _)
  omega
theorem ndIx_last {l : List Stp} (h0 : 0 < l.length) : (ndIx (nd l) l.length)[rk (nd l) l.length - 1]? = some (l.length - 1) := by
  have hn : (nd l).getD (l.length - 1) false = true := nd_last h0 _
  have h1 := ndIx_at (k := l.length) (show l.length - 1 < l.length by omega) hn
  have e : rk (nd l) l.length = rk (nd l) (l.length - 1) + 1 := by
    have : ndIx (nd l) l.length = ndIx (nd l) (l.length - 1) ++ [l.length - 1] := by
      have := ndIx_yes hn
      rwa [show l.length - 1 + 1 = l.length by omega] at this
    unfold rk; rw [this]; simp
  rw [e, Nat.add_sub_cancel]; exact h1
theorem trim_len {f : Form} {l : List Stp} {cs : List (List Int)} (h : Good f l cs) : (trim l).length = rk (nd l) l.length := by rw [trim_is h.back h.kinds]; simp [rk]
theorem trim_refutes {f : Form} {l : List Stp} (h : Refutes f l) : Refutes f (trim l) ∧ (trim l).length ≤ l.length := by
  obtain ⟨cs, hg, h0, hl⟩ := h
  have hlen := trim_len hg
  refine ⟨⟨_, by rw [trim_is hg.back hg.kinds]; exact trim_good hg (Nat.le_refl _), by rw [hlen]; exact rk_pos h0, ?_⟩, by rw [hlen]; exact rk_le _ _⟩
  rw [hlen, List.getD_eq_getElem?_getD, List.getElem?_map, ndIx_last h0]
  exact hl

theorem getD_map_some {α β : Type} (l : List α) (g : α → β) {i : Nat} {a : α} (h : l[i]? = some a) (z : β) : (l.map g).getD i z = g a := by
  rw [List.getD_eq_getElem?_getD, List.getElem?_map, h]; rfl
theorem trim_all {f : Form} {l : List Stp} (h : Refutes f l) : ∀ (d i : Nat), l.length - i ≤ d → i < l.length → (nd l).getD i false = true → (nd (trim l)).getD (rk (nd l) i) false = true := by
  have ht := (trim_refutes h).1
  obtain ⟨cs, hg, h0, hl⟩ := h
  obtain ⟨cs', hg', h0', hl'⟩ := ht
  have hlen := trim_len hg
  have hti := trim_is hg.back hg.kinds
  intro d
  induction d with
  | zero => intro i h1 h2; omega
  | succ d ih =>
    intro i h1 h2 hn
    rcases nd_least hg.back (Nat.le_refl _) (show (ndFrom l l.length).getD i false = true from hn) with e | ⟨i', a1, a2, a3, a4, a5⟩
    · have e2 : rk (nd l) i = (trim l).length - 1 := by
        have hn' := ndIx_yes hn
        rw [hlen, show l.length = i + 1 by omega]
        unfold rk; rw [hn']; simp
      rw [e2]; exact nd_last h0' _
    · have h3 := ih i' (by omega) a2 a3
      have hat : (trim l).getD (rk (nd l) i') s0 = bareR (nd l) (l.getD i' s0) := by
        rw [hti, getD_map_some _ _ (ndIx_at a2 (show (nd l).getD i' false = true from a3))]
      have hlt : rk (nd l) i' < (trim l).length := by rw [hlen]; exact rk_lt a2 a3
      have hc := nd_closed hg'.back hlt h3 (by rw [hat, bareR_kind]; exact a4)
      rw [hat] at hc
      unfold bareR at hc
      rw [if_neg (by omega), if_neg (by omega)] at hc
      simp only [Int.toNat_natCast] at hc
      rcases a5 with e | e
      · rw [e]; exact hc.1
      · rw [e]; exact hc.2
theorem trim_nd {f : Form} {l : List Stp} (h : Refutes f l) {r : Nat} (hr : r < (trim l).length) : (nd (trim l)).getD r false = true := by
  have h' := h
  obtain ⟨cs, hg, h0, hl⟩ := h
  have hlen := trim_len hg
  rw [hlen] at hr
  obtain ⟨i, hi⟩ : ∃ i, (ndIx (nd l) l.length)[r]? = some i := ⟨_, List.getElem?_eq_getElem hr⟩
  obtain ⟨h1, h2⟩ := ndIx_mem (List.mem_of_getElem? hi)
  have h3 := ndIx_at h1 h2
  have hnd : (ndIx (nd l) l.length).Nodup := List.Pairwise.filter _ List.nodup_range
  have e : r = rk (nd l) i := by
    have hr2 : rk (nd l) i < (ndIx (nd l) l.length).length := (List.getElem?_eq_some_iff.1 h3).1
    have := (List.getElem?_inj hr hnd).1 (hi.trans h3.symm)
    exact this
  rw [e]
  exact trim_all h' l.length i (by omega) h1 h2
theorem rk_full {n : List Bool} {k : Nat} (h : ∀ i, i < k → n.getD i false = true) : ndIx n k = List.range k := by
  unfold ndIx
  rw [List.filter_eq_self]
  intro i hi
  exact h i (by simpa using hi)
theorem trim_trim {f : Form} {l : List Stp} (h : Refutes f l) : trim (trim l) = trim l := by
  obtain ⟨⟨cs', hg', h0', hl'⟩, _⟩ := trim_refutes h
  have hall := fun r hr => trim_nd h (r := r) hr
  obtain ⟨cs, hg, h0, hl⟩ := h
  rw [trim_is hg'.back hg'.kinds, rk_full hall]
  refine List.ext_getElem (by simp) fun i h1 h2 => ?_
  rw [List.getElem_map, List.getElem_range]
  have hi : i < (trim l).length := h2
  have e0 : (trim l).getD i s0 = (trim l)[i] := by rw [List.getD_eq_getElem?_getD, List.getElem?_eq_getElem hi]; rfl
  have hbk := hg'.back i hi
  rw [← e0]
  have hlen := trim_len hg
  have hti := trim_is hg.back hg.kinds
  have hi2 : i < (ndIx (nd l) l.length).length := by rw [hlen] at hi; exact hi
  obtain ⟨j, hj⟩ : ∃ j, (ndIx (nd l) l.length)[i]? = some j := ⟨_, List.getElem?_eq_getElem hi2⟩
  have hat : (trim l).getD i s0 = bareR (nd l) (l.getD j s0) := by rw [hti, getD_map_some _ _ hj]
  rw [hat] at hbk ⊢
  rw [bareR_kind] at hbk
  generalize l.getD j s0 = s at *
  unfold bareR at hbk ⊢
  by_cases k1 : s.kind = 1
  · simp [k1]
  · by_cases k2 : s.kind = 2
    · simp [k2]
    · simp only [if_neg k1, if_neg k2] at hbk ⊢
      by_cases k3 : s.kind = 3
      · obtain ⟨b1, b2, b3, b4⟩ := hbk k3
        have r1 : rk (nd (trim l)) (rk (nd l) s.p.toNat) = rk (nd l) s.p.toNat := by
          unfold rk; rw [rk_full fun x hx => hall x (by unfold rk at b2; omega)]; simp
        have r2 : rk (nd (trim l)) (rk (nd l) s.q.toNat) = rk (nd l) s.q.toNat := by
          unfold rk; rw [rk_full fun x hx => hall x (by unfold rk at b4; omega)]; simp
        simp only [Int.toNat_natCast, r1, r2]
      · exfalso
        have := hg.kinds j (ndIx_mem (List.mem_of_getElem? hj)).1
        have := hg'.kinds i hi
        rw [hat, bareR_kind] at this
        omega
end Go.Proofs.YtfffalfnjficaaaGreatDoor
