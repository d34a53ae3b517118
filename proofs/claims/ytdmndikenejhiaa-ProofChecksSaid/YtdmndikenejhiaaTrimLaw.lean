/-
  PLAIN LAW: the needed steps of a refutation. No program.
-/
import Derived.Test.YtdmndikenejhiaaRefLaw2
namespace Go.Proofs.Ytdmndikenejhiaa

def s0 : Stp := ⟨0, 0, [], 0, 0, 0⟩
def ndStep (l : List Stp) (nd : List Bool) (i : Nat) : List Bool :=
  if nd.getD i false = true ∧ (l.getD i s0).kind = 3 then (nd.set (l.getD i s0).p.toNat true).set (l.getD i s0).q.toNat true else nd
/-- Which steps are needed, as far as the last j steps say. -/
def ndFrom (l : List Stp) : Nat → List Bool
  | 0 => (List.replicate l.length false).set (l.length - 1) true
  | j + 1 => ndStep l (ndFrom l j) (l.length - 1 - j)
def nd (l : List Stp) : List Bool := ndFrom l l.length

/-- A step with the fields that its kind uses. -/
def bareS (s : Stp) (pl : List Int) : Stp :=
  if s.kind = 1 then ⟨s.kind, s.index, [], 0, 0, 0⟩ else if s.kind = 2 then ⟨s.kind, 0, s.lits, 0, 0, 0⟩ else ⟨s.kind, 0, [], gi pl s.p, gi pl s.q, s.var⟩
/-- The new indices, and the trimmed steps, of the first k steps. -/
def trTo (l : List Stp) (n : List Bool) : Nat → List Int × List Stp
  | 0 => (List.replicate l.length 0, [])
  | k + 1 => if n.getD k false = true then ((trTo l n k).1.set k ((trTo l n k).2.length : Int), (trTo l n k).2 ++ [bareS (l.getD k s0) ((trTo l n k).1.set k ((trTo l n k).2.length : Int))]) else trTo l n k
def trim (l : List Stp) : List Stp := (trTo l (nd l) l.length).2

/-- A resolution names earlier steps. -/
def Back (l : List Stp) : Prop := ∀ (i : Nat), i < l.length → (l.getD i s0).kind = 3 → 0 ≤ (l.getD i s0).p ∧ (l.getD i s0).p < i ∧ 0 ≤ (l.getD i s0).q ∧ (l.getD i s0).q < i

theorem getD_set {α : Type} (l : List α) (i j : Nat) (a z : α) : (l.set i a).getD j z = if i = j ∧ j < l.length then a else l.getD j z := by
  rw [List.getD_eq_getElem?_getD, List.getElem?_set, List.getD_eq_getElem?_getD]
  by_cases h : i = j
  · subst h
    by_cases h2 : i < l.length
    · simp [h2]
    · simp [h2]
  · simp [h]

theorem ndStep_len (l : List Stp) (n : List Bool) (i : Nat) : (ndStep l n i).length = n.length := by unfold ndStep; split <;> simp
theorem ndFrom_len (l : List Stp) (j : Nat) : (ndFrom l j).length = l.length := by
  induction j with
  | zero => simp [ndFrom]
  | succ j ih => rw [ndFrom, ndStep_len, ih]
theorem ndStep_mono {l : List Stp} {n : List Bool} {i m : Nat} (h : n.getD m false = true) : (ndStep l n i).getD m false = true := by
  unfold ndStep
  split
  · rw [getD_set]
    split
    · rfl
    · rw [getD_set]
      split
      · rfl
      · exact h
  · exact h
theorem ndFrom_mono {l : List Stp} {j k m : Nat} (hjk : j ≤ k) (h : (ndFrom l j).getD m false = true) : (ndFrom l k).getD m false = true := by
  induction k with
  | zero => obtain rfl : j = 0 := by omega
            exact h
  | succ k ih =>
    by_cases e : j = k + 1
    · rw [← e]; exact h
    · rw [ndFrom]; exact ndStep_mono (ih (by omega))
theorem nd_last {l : List Stp} (h : 0 < l.length) (j : Nat) : (ndFrom l j).getD (l.length - 1) false = true := by
  refine ndFrom_mono (Nat.zero_le j) ?_
  rw [ndFrom, getD_set, if_pos ⟨rfl, by simp; omega⟩]
/-- What the later steps say of a step from k on is not turned by the steps ahead. -/
theorem ndStep_at {l : List Stp} (hb : Back l) {n : List Bool} {i m : Nat} (hi : i < l.length) (hm : i ≤ m) : (ndStep l n i).getD m false = n.getD m false := by
  unfold ndStep
  split
  · rename_i h
    obtain ⟨h1, h2, h3, h4⟩ := hb i hi h.2
    rw [getD_set, if_neg (by omega), getD_set, if_neg (by omega)]
  · rfl
theorem nd_fix {l : List Stp} (hb : Back l) {i j : Nat} (hi : i < l.length) (hj : l.length - i ≤ j + 1) (hj2 : j ≤ l.length) : (ndFrom l j).getD i false = (ndFrom l (l.length - 1 - i)).getD i false := by
  induction j with
  | zero => rw [show l.length - 1 - i = 0 by omega]
  | succ j ih =>
    by_cases e : l.length - i ≤ j + 1
    · rw [ndFrom, ndStep_at hb (by omega) (by omega)]
      exact ih e (by omega)
    · rw [show l.length - 1 - i = j + 1 by omega]
theorem nd_closed {l : List Stp} (hb : Back l) {i : Nat} (hi : i < l.length) (h : (nd l).getD i false = true) (hk : (l.getD i s0).kind = 3) : (nd l).getD (l.getD i s0).p.toNat false = true ∧ (nd l).getD (l.getD i s0).q.toNat false = true := by
  obtain ⟨h1, h2, h3, h4⟩ := hb i hi hk
  unfold nd at h ⊢
  rw [nd_fix hb hi (by omega) (Nat.le_refl _)] at h
  have e : ndFrom l (l.length - 1 - i + 1) = ((ndFrom l (l.length - 1 - i)).set (l.getD i s0).p.toNat true).set (l.getD i s0).q.toNat true := by
    rw [ndFrom, show l.length - 1 - (l.length - 1 - i) = i by omega, ndStep, if_pos ⟨h, hk⟩]
  have hl := ndFrom_len l (l.length - 1 - i)
  constructor
  · refine ndFrom_mono (j := l.length - 1 - i + 1) (by omega) ?_
    rw [e, getD_set]
    split
    · rfl
    · rw [getD_set, if_pos ⟨rfl, by omega⟩]
  · refine ndFrom_mono (j := l.length - 1 - i + 1) (by omega) ?_
    rw [e, getD_set, if_pos ⟨rfl, by rw [List.length_set]; omega⟩]
theorem nd_least {l : List Stp} (hb : Back l) {j m : Nat} (hj : j ≤ l.length) (h : (ndFrom l j).getD m false = true) : m = l.length - 1 ∨ ∃ i, m < i ∧ i < l.length ∧ (ndFrom l j).getD i false = true ∧ (l.getD i s0).kind = 3 ∧ (m = (l.getD i s0).p.toNat ∨ m = (l.getD i s0).q.toNat) := by
  induction j with
  | zero =>
    left
    rw [ndFrom, getD_set] at h
    split at h
    · rename_i e; exact e.1.symm
    · rw [List.getD_eq_getElem?_getD, List.getElem?_replicate] at h
      split at h <;> cases h
  | succ j ih =>
    have keep : (ndFrom l j).getD m false = true → m = l.length - 1 ∨ ∃ i, m < i ∧ i < l.length ∧ (ndFrom l (j + 1)).getD i false = true ∧ (l.getD i s0).kind = 3 ∧ (m = (l.getD i s0).p.toNat ∨ m = (l.getD i s0).q.toNat) := fun h => by
      rcases ih (by omega) h with e | ⟨i, h1, h2, h3, h4, h5⟩
      · exact .inl e
      · exact .inr ⟨i, h1, h2, ndFrom_mono (Nat.le_succ j) h3, h4, h5⟩
    have h' := h
    rw [ndFrom, ndStep] at h'
    split at h'
    · rename_i e
      obtain ⟨b1, b2, b3, b4⟩ := hb (l.length - 1 - j) (by omega) e.2
      have hme : (ndFrom l (j + 1)).getD (l.length - 1 - j) false = true := ndFrom_mono (Nat.le_succ j) e.1
      rw [getD_set] at h'
      split at h'
      · rename_i e2
        exact .inr ⟨l.length - 1 - j, by omega, by omega, hme, e.2, .inr e2.1.symm⟩
      · rw [getD_set] at h'
        split at h'
        · rename_i e2
          exact .inr ⟨l.length - 1 - j, by omega, by omega, hme, e.2, .inl e2.1.symm⟩
        · exact keep h'
    · exact keep h'

/-- The needed indices below k; how many there are. -/
def ndIx (n : List Bool) (k : Nat) : List Nat := (List.range k).filter fun i => n.getD i false
def rk (n : List Bool) (k : Nat) : Nat := (ndIx n k).length
theorem ndIx_yes {n : List Bool} {k : Nat} (h : n.getD k false = true) : ndIx n (k + 1) = ndIx n k ++ [k] := by
  unfold ndIx; rw [List.range_succ, List.filter_append]; simp only [List.filter_cons, h, if_true, List.filter_nil]
theorem ndIx_no {n : List Bool} {k : Nat} (h : ¬ n.getD k false = true) : ndIx n (k + 1) = ndIx n k := by
  unfold ndIx; rw [List.range_succ, List.filter_append]; simp only [List.filter_cons, h, List.filter_nil]; simp
theorem rk_mono (n : List Bool) {j k : Nat} (h : j ≤ k) : rk n j ≤ rk n k := by
  induction k with
  | zero => obtain rfl : j = 0 := by omega
            exact Nat.le_refl _
  | succ k ih =>
    by_cases e : j = k + 1
    · rw [e]; exact Nat.le_refl _
    · refine Nat.le_trans (ih (by omega)) ?_
      unfold rk
      by_cases hk : n.getD k false = true
      · rw [ndIx_yes hk]; simp
      · rw [ndIx_no hk]; exact Nat.le_refl _
theorem rk_lt {n : List Bool} {j k : Nat} (h : j < k) (hj : n.getD j false = true) : rk n j < rk n k := by
  refine Nat.lt_of_lt_of_le ?_ (rk_mono n (show j + 1 ≤ k from h))
  unfold rk
  rw [ndIx_yes hj]; simp
theorem rk_le (n : List Bool) (k : Nat) : rk n k ≤ k := by
  unfold rk ndIx
  exact Nat.le_trans (List.length_filter_le _ _) (by simp)
theorem ndIx_at {n : List Bool} {j k : Nat} (h : j < k) (hj : n.getD j false = true) : (ndIx n k)[rk n j]? = some j := by
  induction k with
  | zero => omega
  | succ k ih =>
    by_cases e : j = k
    · subst e
      rw [ndIx_yes hj]
      unfold rk
      rw [List.getElem?_append_right (Nat.le_refl _)]; simp
    · have h1 := ih (by omega)
      have hlt := (List.getElem?_eq_some_iff.1 h1).1
      by_cases hk : n.getD k false = true
      · rw [ndIx_yes hk, List.getElem?_append_left hlt]; exact h1
      · rw [ndIx_no hk]; exact h1
theorem ndIx_mem {n : List Bool} {j k : Nat} (h : j ∈ ndIx n k) : j < k ∧ n.getD j false = true := by
  unfold ndIx at h
  obtain ⟨h1, h2⟩ := List.mem_filter.1 h
  exact ⟨by simpa using h1, h2⟩

/-- The step with the new indices by their count. -/
def bareR (n : List Bool) (s : Stp) : Stp :=
  if s.kind = 1 then ⟨s.kind, s.index, [], 0, 0, 0⟩ else if s.kind = 2 then ⟨s.kind, 0, s.lits, 0, 0, 0⟩ else ⟨s.kind, 0, [], rk n s.p.toNat, rk n s.q.toNat, s.var⟩
theorem bareR_kind (n : List Bool) (s : Stp) : (bareR n s).kind = s.kind := by unfold bareR; split <;> (try split) <;> rfl

/-- Kinds of steps that can be right. -/
def Kinds (l : List Stp) : Prop := ∀ i, i < l.length → (l.getD i s0).kind = 1 ∨ (l.getD i s0).kind = 2 ∨ (l.getD i s0).kind = 3
theorem trTo_len (l : List Stp) (n : List Bool) (k : Nat) : (trTo l n k).1.length = l.length := by
  induction k with
  | zero => simp [trTo]
  | succ k ih => rw [trTo]; split <;> simp [ih]
theorem trTo_is {l : List Stp} (hb : Back l) (hkd : Kinds l) {k : Nat} (hk : k ≤ l.length) : (∀ i, i < k → (nd l).getD i false = true → gi (trTo l (nd l) k).1 i = (rk (nd l) i : Int)) ∧ (trTo l (nd l) k).2 = (ndIx (nd l) k).map fun i => bareR (nd l) (l.getD i s0) := by
  induction k with
  | zero => exact ⟨fun i h => by omega, rfl⟩
  | succ k ih =>
    obtain ⟨h1, h2⟩ := ih (by omega)
    by_cases h : (nd l).getD k false = true
    · have hl : (trTo l (nd l) k).2.length = rk (nd l) k := by rw [h2]; simp [rk]
      have hp : ∀ i, i < k + 1 → (nd l).getD i false = true → gi ((trTo l (nd l) k).1.set k ((trTo l (nd l) k).2.length : Int)) i = (rk (nd l) i : Int) := by
        intro i hi hn
        unfold gi
        rw [Int.toNat_natCast, getD_set, trTo_len]
        split
        · rename_i e; rw [hl, e.1]
        · have := h1 i (by omega) hn
          unfold gi at this
          rwa [Int.toNat_natCast] at this
      rw [trTo, if_pos h]
      refine ⟨hp, ?_⟩
      show (trTo l (nd l) k).2 ++ [bareS (l.getD k s0) ((trTo l (nd l) k).1.set k ((trTo l (nd l) k).2.length : Int))] = _
      rw [ndIx_yes h, List.map_append, ← h2, List.map_cons, List.map_nil]
      refine congrArg (fun s => (trTo l (nd l) k).2 ++ [s]) ?_
      unfold bareS bareR
      split
      · rfl
      · split
        · rfl
        · rename_i k1 k2
          have k3 : (l.getD k s0).kind = 3 := by rcases hkd k (by omega) with e | e | e <;> first | exact e | exact absurd e k1 | exact absurd e k2
          obtain ⟨b1, b2, b3, b4⟩ := hb k (by omega) k3
          obtain ⟨c1, c2⟩ := nd_closed hb (by omega) h k3
          have e1 := hp (l.getD k s0).p.toNat (by omega) c1
          have e2 := hp (l.getD k s0).q.toNat (by omega) c2
          rw [Int.toNat_of_nonneg b1] at e1
          rw [Int.toNat_of_nonneg b3] at e2
          rw [e1, e2]
    · rw [trTo, if_neg h, ndIx_no h]
      refine ⟨fun i hi hn => h1 i ?_ hn, h2⟩
      by_cases e : i = k
      · rw [e] at hn; exact absurd hn h
      · omega
theorem trim_is {l : List Stp} (hb : Back l) (hkd : Kinds l) : trim l = (ndIx (nd l) l.length).map fun i => bareR (nd l) (l.getD i s0) := (trTo_is hb hkd (Nat.le_refl _)).2

theorem runS_at {f : Form} {a cs : List (List Int)} {l : List Stp} (h : runS f a l = (cs, true)) {i : Nat} (hi : i < l.length) : ∃ c, cs[a.length + i]? = some c ∧ deriv f (l.getD i s0) (cs.take (a.length + i)) = some c := by
  induction l generalizing a i with
  | nil => simp at hi
  | cons s l ih =>
    rw [runS] at h
    cases e : deriv f s a with
    | none => rw [e] at h; injection h with _ h; cases h
    | some c =>
      rw [e] at h
      cases i with
      | zero =>
        have hpre : ∀ {a cs : List (List Int)} {l : List Stp}, runS f a l = (cs, true) → ∃ r, cs = a ++ r := by
          intro a cs l
          induction l generalizing a with
          | nil => intro h; rw [runS] at h; injection h with h _; exact ⟨[], by simp [h]⟩
          | cons s l ih =>
            intro h
            rw [runS] at h
            cases e : deriv f s a with
            | none => rw [e] at h; injection h with _ h; cases h
            | some c =>
              rw [e] at h
              obtain ⟨r, hr⟩ := ih h
              exact ⟨c :: r, by rw [hr]; simp⟩
        obtain ⟨r, hr⟩ := hpre h
        refine ⟨c, ?_, ?_⟩
        · rw [hr]; simp
        · rw [hr]; simpa using e
      | succ i =>
        obtain ⟨c', h1, h2⟩ := ih h (i := i) (by simpa using hi)
        refine ⟨c', ?_, ?_⟩
        · rw [← h1]; simp; congr 1; omega
        · rw [List.getD_cons_succ, show a.length + (i + 1) = (a ++ [c]).length + i by simp; omega]; exact h2
theorem Good.at_ {f : Form} {l : List Stp} {cs : List (List Int)} (h : Good f l cs) {i : Nat} (hi : i < l.length) : ∃ c, cs[i]? = some c ∧ deriv f (l.getD i s0) (cs.take i) = some c := by
  have := runS_at h hi
  simpa using this
theorem deriv_kind {f : Form} {s : Stp} {cs : List (List Int)} {c : List Int} (h : deriv f s cs = some c) : (s.kind = 1 ∨ s.kind = 2 ∨ s.kind = 3) ∧ (s.kind = 3 → 0 ≤ s.p ∧ s.p < cs.length ∧ 0 ≤ s.q ∧ s.q < cs.length) ∧ (s.kind = 1 → 0 ≤ s.index ∧ s.index < f.clauses.length) := by
  unfold deriv at h
  split at h
  · rename_i k1
    refine ⟨.inl k1, fun k3 => by omega, fun _ => ?_⟩
    split at h
    · rename_i h0
      obtain ⟨a, h1, _⟩ := Option.bind_eq_some_iff.1 h
      have := (List.getElem?_eq_some_iff.1 h1).1
      omega
    · cases h
  · rename_i k1
    split at h
    · rename_i k2
      exact ⟨.inr (.inl k2), fun k3 => by omega, fun e => absurd e k1⟩
    · split at h
      · rename_i k3
        refine ⟨.inr (.inr k3), fun _ => ?_, fun e => absurd e k1⟩
        split at h
        · obtain ⟨a, h1, h2⟩ := Option.bind_eq_some_iff.1 h
          obtain ⟨b, h3, _⟩ := Option.bind_eq_some_iff.1 h2
          have := (List.getElem?_eq_some_iff.1 h1).1
          have := (List.getElem?_eq_some_iff.1 h3).1
          omega
        · cases h
      · cases h
theorem Good.back {f : Form} {l : List Stp} {cs : List (List Int)} (h : Good f l cs) : Back l := fun i hi hk => by
  obtain ⟨c, h1, h2⟩ := h.at_ hi
  have h3 := (deriv_kind h2).2.1 hk
  have : (cs.take i).length ≤ i := List.length_take_le _ _
  omega
theorem Good.kinds {f : Form} {l : List Stp} {cs : List (List Int)} (h : Good f l cs) : Kinds l := fun i hi => by
  obtain ⟨c, h1, h2⟩ := h.at_ hi
  exact (deriv_kind h2).1

theorem trim_good {f : Form} {l : List Stp} {cs : List (List Int)} (h : Good f l cs) {k : Nat} (hk : k ≤ l.length) : Good f ((ndIx (nd l) k).map fun i => bareR (nd l) (l.getD i s0)) ((ndIx (nd l) k).map fun i => cs.getD i []) := by
  induction k with
  | zero => exact Good.nil f
  | succ k ih =>
    have hg := ih (by omega)
    by_cases hn : (nd l).getD k false = true
    · rw [ndIx_yes hn, List.map_append, List.map_append]
      obtain ⟨c, h1, h2⟩ := h.at_ (i := k) (by omega)
      have hc : cs.getD k [] = c := by rw [List.getD_eq_getElem?_getD, h1]; rfl
      rw [List.map_cons, List.map_nil, List.map_cons, List.map_nil, hc]
      refine hg.snoc ?_
      have hkd := deriv_kind h2
      have key : ∀ j, j < k → (nd l).getD j false = true → ((ndIx (nd l) k).map fun i => cs.getD i [])[rk (nd l) j]? = (cs.take k)[j]? := by
        intro j hj hnj
        rw [List.getElem?_map, ndIx_at hj hnj, List.getElem?_take, if_pos hj, Option.map_some, List.getD_eq_getElem?_getD]
        have : j < cs.length := by have := h.len; omega
        rw [List.getElem?_eq_getElem this]; rfl
      generalize hs : l.getD k s0 = s at h2 hkd
      unfold bareR
      unfold deriv at h2 ⊢
      split
      · rename_i k1
        simp only [k1, if_true] at h2 ⊢
        exact h2
      · rename_i k1
        split
        · rename_i k2
          simp only [k2, if_true] at h2 ⊢
          exact h2
        · rename_i k2
          have k3 : s.kind = 3 := by rcases hkd.1 with e | e | e <;> first | exact e | exact absurd e k1 | exact absurd e k2
          obtain ⟨b1, b2, b3, b4⟩ := hkd.2.1 k3
          have hlt : (cs.take k).length ≤ k := List.length_take_le _ _
          obtain ⟨c1, c2⟩ := nd_closed h.back (by omega) hn (by rw [hs]; exact k3)
          rw [hs] at c1 c2
          rw [if_neg k1, if_neg k2, if_pos k3, if_pos ⟨b1, b3⟩] at h2
          simp only [if_pos k3]
          rw [if_pos ⟨by omega, by omega⟩, Int.toNat_natCast, Int.toNat_natCast, key _ (by omega) c1, key _ (by omega) c2]
          exact h2
    · rw [ndIx_no hn]; exact hg

/-- The last clause is empty: a refutation. -/
def Refutes (f : Form) (l : List Stp) : Prop := ∃ cs, Good f l cs ∧ 0 < l.length ∧ cs.getD (l.length - 1) [] = []
theorem rk_pos {l : List Stp} (h0 : 0 < l.length) : 0 < rk (nd l) l.length := by
  have := rk_lt (n := nd l) (j := l.length - 1) (k := l.length) (by omega) (nd_last h0 _)
  omega
theorem ndIx_last {l : List Stp} (h0 : 0 < l.length) : (ndIx (nd l) l.length)[rk (nd l) l.length - 1]? = some (l.length - 1) := by
  have hn : (nd l).getD (l.length - 1) false = true := nd_last h0 _
  have h1 := ndIx_at (k := l.length) (show l.length - 1 < l.length by omega) hn
  have e : rk (nd l) l.length = rk (nd l) (l.length - 1) + 1 := by
    have : ndIx (nd l) l.length = ndIx (nd l) (l.length - 1) ++ [l.length - 1] := by
      have := ndIx_yes hn
      rwa [show l.length - 1 + 1 = l.length by omega] at this
    unfold rk; rw [this]; simp
  rw [e, Nat.add_sub_cancel]; exact h1
theorem trim_len {f : Form} {l : List Stp} {cs : List (List Int)} (h : Good f l cs) : (trim l).length = rk (nd l) l.length := by rw [trim_is h.back h.kinds]; simp [rk]
theorem trim_refutes {f : Form} {l : List Stp} (h : Refutes f l) : Refutes f (trim l) ∧ (trim l).length ≤ l.length := by
  obtain ⟨cs, hg, h0, hl⟩ := h
  have hlen := trim_len hg
  refine ⟨⟨_, by rw [trim_is hg.back hg.kinds]; exact trim_good hg (Nat.le_refl _), by rw [hlen]; exact rk_pos h0, ?_⟩, by rw [hlen]; exact rk_le _ _⟩
  rw [hlen, List.getD_eq_getElem?_getD, List.getElem?_map, ndIx_last h0]
  exact hl

theorem getD_map_some {α β : Type} (l : List α) (g : α → β) {i : Nat} {a : α} (h : l[i]? = some a) (z : β) : (l.map g).getD i z = g a := by
  rw [List.getD_eq_getElem?_getD, List.getElem?_map, h]; rfl
theorem trim_all {f : Form} {l : List Stp} (h : Refutes f l) : ∀ (d i : Nat), l.length - i ≤ d → i < l.length → (nd l).getD i false = true → (nd (trim l)).getD (rk (nd l) i) false = true := by
  have ht := (trim_refutes h).1
  obtain ⟨cs, hg, h0, hl⟩ := h
  obtain ⟨cs', hg', h0', hl'⟩ := ht
  have hlen := trim_len hg
  have hti := trim_is hg.back hg.kinds
  intro d
  induction d with
  | zero => intro i h1 h2; omega
  | succ d ih =>
    intro i h1 h2 hn
    rcases nd_least hg.back (Nat.le_refl _) (show (ndFrom l l.length).getD i false = true from hn) with e | ⟨i', a1, a2, a3, a4, a5⟩
    · have e2 : rk (nd l) i = (trim l).length - 1 := by
        have hn' := ndIx_yes hn
        rw [hlen, show l.length = i + 1 by omega]
        unfold rk; rw [hn']; simp
      rw [e2]; exact nd_last h0' _
    · have h3 := ih i' (by omega) a2 a3
      have hat : (trim l).getD (rk (nd l) i') s0 = bareR (nd l) (l.getD i' s0) := by
        rw [hti, getD_map_some _ _ (ndIx_at a2 (show (nd l).getD i' false = true from a3))]
      have hlt : rk (nd l) i' < (trim l).length := by rw [hlen]; exact rk_lt a2 a3
      have hc := nd_closed hg'.back hlt h3 (by rw [hat, bareR_kind]; exact a4)
      rw [hat] at hc
      unfold bareR at hc
      rw [if_neg (by omega), if_neg (by omega)] at hc
      simp only [Int.toNat_natCast] at hc
      rcases a5 with e | e
      · rw [e]; exact hc.1
      · rw [e]; exact hc.2
theorem trim_nd {f : Form} {l : List Stp} (h : Refutes f l) {r : Nat} (hr : r < (trim l).length) : (nd (trim l)).getD r false = true := by
  have h' := h
  obtain ⟨cs, hg, h0, hl⟩ := h
  have hlen := trim_len hg
  rw [hlen] at hr
  obtain ⟨i, hi⟩ : ∃ i, (ndIx (nd l) l.length)[r]? = some i := ⟨_, List.getElem?_eq_getElem hr⟩
  obtain ⟨h1, h2⟩ := ndIx_mem (List.mem_of_getElem? hi)
  have h3 := ndIx_at h1 h2
  have hnd : (ndIx (nd l) l.length).Nodup := List.Pairwise.filter _ List.nodup_range
  have e : r = rk (nd l) i := by
    have hr2 : rk (nd l) i < (ndIx (nd l) l.length).length := (List.getElem?_eq_some_iff.1 h3).1
    have := (List.getElem?_inj hr hnd).1 (hi.trans h3.symm)
    exact this
  rw [e]
  exact trim_all h' l.length i (by omega) h1 h2
theorem rk_full {n : List Bool} {k : Nat} (h : ∀ i, i < k → n.getD i false = true) : ndIx n k = List.range k := by
  unfold ndIx
  rw [List.filter_eq_self]
  intro i hi
  exact h i (by simpa using hi)
theorem trim_trim {f : Form} {l : List Stp} (h : Refutes f l) : trim (trim l) = trim l := by
  obtain ⟨⟨cs', hg', h0', hl'⟩, _⟩ := trim_refutes h
  have hall := fun r hr => trim_nd h (r := r) hr
  obtain ⟨cs, hg, h0, hl⟩ := h
  rw [trim_is hg'.back hg'.kinds, rk_full hall]
  refine List.ext_getElem (by simp) fun i h1 h2 => ?_
  rw [List.getElem_map, List.getElem_range]
  have hi : i < (trim l).length := h2
  have e0 : (trim l).getD i s0 = (trim l)[i] := by rw [List.getD_eq_getElem?_getD, List.getElem?_eq_getElem hi]; rfl
  have hbk := hg'.back i hi
  rw [← e0]
  have hlen := trim_len hg
  have hti := trim_is hg.back hg.kinds
  have hi2 : i < (ndIx (nd l) l.length).length := by rw [hlen] at hi; exact hi
  obtain ⟨j, hj⟩ : ∃ j, (ndIx (nd l) l.length)[i]? = some j := ⟨_, List.getElem?_eq_getElem hi2⟩
  have hat : (trim l).getD i s0 = bareR (nd l) (l.getD j s0) := by rw [hti, getD_map_some _ _ hj]
  rw [hat] at hbk ⊢
  rw [bareR_kind] at hbk
  generalize l.getD j s0 = s at *
  unfold bareR at hbk ⊢
  by_cases k1 : s.kind = 1
  · simp [k1]
  · by_cases k2 : s.kind = 2
    · simp [k2]
    · simp only [if_neg k1, if_neg k2] at hbk ⊢
      by_cases k3 : s.kind = 3
      · obtain ⟨b1, b2, b3, b4⟩ := hbk k3
        have r1 : rk (nd (trim l)) (rk (nd l) s.p.toNat) = rk (nd l) s.p.toNat := by
          unfold rk; rw [rk_full fun x hx => hall x (by unfold rk at b2; omega)]; simp
        have r2 : rk (nd (trim l)) (rk (nd l) s.q.toNat) = rk (nd l) s.q.toNat := by
          unfold rk; rw [rk_full fun x hx => hall x (by unfold rk at b4; omega)]; simp
        simp only [Int.toNat_natCast, r1, r2]
      · exfalso
        have := hg.kinds j (ndIx_mem (List.mem_of_getElem? hj)).1
        have := hg'.kinds i hi
        rw [hat, bareR_kind] at this
        omega
end Go.Proofs.Ytdmndikenejhiaa
