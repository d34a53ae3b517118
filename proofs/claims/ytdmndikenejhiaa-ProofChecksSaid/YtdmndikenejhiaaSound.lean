/-
  PLAIN LAW: each clause of right steps holds in every model of the formula. No program.
-/
import Derived.Test.YtdmndikenejhiaaRefLaw2
namespace Go.Proofs.Ytdmndikenejhiaa

/-- The booleans of atoms say whether their constraints hold. -/
def Fits (atoms : List Diff) (bs : List Bool) (xs : List Int) : Prop := ∀ (i : Nat) (d : Diff), atoms[i]? = some d → bs[i]? = some (decide (gi xs d.x - gi xs d.y ≤ d.c))

theorem holds_bound {atoms : List Diff} {bs : List Bool} {xs : List Int} (hf : Fits atoms bs xs) {lit : Int} {d : Diff} (hb : bound atoms lit = some d) : (holds bs lit = true ∧ gi xs d.x - gi xs d.y ≤ d.c) ∨ holds bs (-lit) = true := by
  rcases lit_cases lit with rfl | ⟨n, rfl⟩ | ⟨n, rfl⟩
  · rw [bound_zero] at hb; cases hb
  · rw [bound_pos] at hb
    have h1 := hf n d hb
    by_cases h : gi xs d.x - gi xs d.y ≤ d.c
    · refine .inl ⟨?_, h⟩
      rw [holds_pos, List.getD_eq_getElem?_getD, h1]; simp [h]
    · refine .inr ?_
      rw [holds_neg, h1]; simp [h]
  · rw [bound_neg] at hb
    obtain ⟨a, ha, rfl⟩ := Option.map_eq_some_iff.1 hb
    have h1 := hf n a ha
    by_cases h : gi xs a.x - gi xs a.y ≤ a.c
    · refine .inr ?_
      rw [show -(-((n : Int) + 1)) = (n : Int) + 1 by omega, holds_pos, List.getD_eq_getElem?_getD, h1]; simp [h]
    · refine .inl ⟨?_, ?_⟩
      · rw [holds_neg, h1]; simp [h]
      · simp only [Diff.opp]; omega

/-- The differences along a chain add up to the difference of its ends. -/
theorem chain_sum (X : Int → Int) (ds : List Diff) (d0 : Diff) (h : ∀ (i : Nat) (a b : Diff), (d0 :: ds)[i]? = some a → (d0 :: ds)[i + 1]? = some b → a.y = b.x) :
    ((d0 :: ds).map fun d => X d.x - X d.y).sum = X d0.x - X ((d0 :: ds).getLast (by simp)).y := by
  induction ds generalizing d0 with
  | nil => simp
  | cons d1 r ih =>
    have h01 := h 0 d0 d1 rfl rfl
    have := ih d1 fun i a b h1 h2 => h (i + 1) a b h1 h2
    rw [List.map_cons, List.sum_cons, this, List.getLast_cons (List.cons_ne_nil d1 r), h01]
    omega
theorem cyc_sum (X : Int → Int) {ds : List Diff} (h : Linked ds ds.length) : (ds.map fun d => X d.x - X d.y).sum = 0 := by
  cases ds with
  | nil => rfl
  | cons d0 r =>
    rw [chain_sum X r d0 fun i a b h1 h2 => ?_]
    · have hlast : (d0 :: r)[r.length]? = some ((d0 :: r).getLast (by simp)) := by
        rw [List.getLast_eq_getElem]; simp
      have := h r.length _ d0 (by simp) hlast (by simp)
      rw [this]; omega
    · have hi := (List.getElem?_eq_some_iff.1 h2).1
      refine h i a b (by omega) h1 ?_
      rw [Nat.mod_eq_of_lt hi]; exact h2
theorem sum_le_map {α : Type} (p q : α → Int) (l : List α) (h : ∀ d ∈ l, p d ≤ q d) : (l.map p).sum ≤ (l.map q).sum := by
  induction l with
  | nil => simp
  | cons d r ih =>
    have h1 := h d (by simp)
    have h2 := ih fun d hd => h d (by simp [hd])
    simp only [List.map_cons, List.sum_cons]
    omega
theorem cyc_no (X : Int → Int) {ds : List Diff} (h : Cyc ds) : ∃ d ∈ ds, ¬ X d.x - X d.y ≤ d.c := by
  apply Classical.byContradiction
  intro hn
  have h1 := cyc_sum X h.2.1
  have h2 := sum_le_map (fun d : Diff => X d.x - X d.y) (fun d : Diff => d.c) ds fun d hd => Classical.byContradiction fun hc => hn ⟨d, hd, hc⟩
  have h3 := h.2.2
  unfold csum at h3
  have e : (ds.map fun d : Diff => d.c) = ds.map Diff.c := rfl
  rw [e] at h2
  omega

theorem norm_any {xs c : List Int} (h : norm xs = some c) (p : Int → Bool) : c.any p = xs.any p := by
  have hs := norm_spec xs
  rw [h] at hs
  rw [Bool.eq_iff_iff, List.any_eq_true, List.any_eq_true]
  exact ⟨fun ⟨x, h1, h2⟩ => ⟨x, (hs.2.1 x).1 h1, h2⟩, fun ⟨x, h1, h2⟩ => ⟨x, (hs.2.1 x).2 h1, h2⟩⟩

theorem bnds_mem {atoms : List Diff} {lits : List Int} {ds : List Diff} (h : bnds atoms lits = some ds) {d : Diff} (hd : d ∈ ds) : ∃ x ∈ lits, bound atoms x = some d := by
  have h1 := bnds_some.1 h
  have h2 : some d ∈ ds.map some := List.mem_map.2 ⟨d, hd, rfl⟩
  rw [← h1] at h2
  obtain ⟨x, h3, h4⟩ := List.mem_map.1 h2
  exact ⟨x, h3, h4⟩

theorem holds_one (bs : List Bool) (v : Int) (h : holds bs v = true) : holds bs (-v) = false := by
  rcases lit_cases v with rfl | ⟨n, rfl⟩ | ⟨n, rfl⟩
  · rfl
  · rw [holds_pos, List.getD_eq_getElem?_getD] at h
    rw [holds_neg]
    cases e : bs[n]? with
    | none => rfl
    | some b => rw [e] at h; simp at h; simp [h]
  · rw [holds_neg] at h
    rw [show -(-((n : Int) + 1)) = (n : Int) + 1 by omega, holds_pos, List.getD_eq_getElem?_getD]
    cases e : bs[n]? with
    | none => rw [e] at h; cases h
    | some b => rw [e] at h; simp at h; simp [h]

theorem deriv_holds {f : Form} {bs : List Bool} {xs : List Int} (hf : Fits f.atoms bs xs) (hc : ∀ c ∈ f.clauses, c.any (holds bs) = true) {s : Stp} {cs : List (List Int)} (hcs : ∀ c ∈ cs, c.any (holds bs) = true) {c : List Int} (h : deriv f s cs = some c) : c.any (holds bs) = true := by
  unfold deriv at h
  split at h
  · split at h
    · obtain ⟨a, h1, h2⟩ := Option.bind_eq_some_iff.1 h
      rw [norm_any h2]
      exact hc a (List.mem_of_getElem? h1)
    · cases h
  · split at h
    · unfold cyc at h
      split at h
      · rename_i ds hds
        split at h
        · rename_i hcy
          rw [norm_any h, List.any_eq_true]
          obtain ⟨d, hd, hno⟩ := cyc_no (gi xs) (show Cyc ds from by simpa [cycB] using hcy)
          obtain ⟨x, hx, hbx⟩ := bnds_mem hds hd
          rcases holds_bound hf hbx with ⟨_, h2⟩ | h2
          · exact absurd h2 hno
          · exact ⟨-x, List.mem_map.2 ⟨x, hx, rfl⟩, h2⟩
        · cases h
      · cases h
    · split at h
      · split at h
        · obtain ⟨a, h1, h2⟩ := Option.bind_eq_some_iff.1 h
          obtain ⟨b, h3, h4⟩ := Option.bind_eq_some_iff.1 h2
          unfold res at h4
          split at h4
          · rw [norm_any h4]
            have ha := hcs a (List.mem_of_getElem? h1)
            have hb := hcs b (List.mem_of_getElem? h3)
            rw [List.any_eq_true] at ha hb ⊢
            obtain ⟨x, hx, hx2⟩ := ha
            obtain ⟨y, hy, hy2⟩ := hb
            by_cases e1 : x = s.var + 1
            · by_cases e2 : y = -(s.var + 1)
              · subst e1 e2
                have := holds_one bs _ hx2
                rw [this] at hy2; cases hy2
              · exact ⟨y, List.mem_append_right _ (List.mem_filter.2 ⟨hy, by simpa using e2⟩), hy2⟩
            · exact ⟨x, List.mem_append_left _ (List.mem_filter.2 ⟨hx, by simpa using e1⟩), hx2⟩
          · cases h4
        · cases h
      · cases h
theorem runS_holds {f : Form} {bs : List Bool} {xs : List Int} (hf : Fits f.atoms bs xs) (hc : ∀ c ∈ f.clauses, c.any (holds bs) = true) {a cs : List (List Int)} {l : List Stp} {b : Bool} (h : runS f a l = (cs, b)) (ha : ∀ c ∈ a, c.any (holds bs) = true) : ∀ c ∈ cs, c.any (holds bs) = true := by
  induction l generalizing a with
  | nil => rw [runS] at h; injection h with h _; rw [← h]; exact ha
  | cons s l ih =>
    rw [runS] at h
    cases e : deriv f s a with
    | none => rw [e] at h; injection h with h _; rw [← h]; exact ha
    | some c =>
      rw [e] at h
      refine ih h fun c' hc' => ?_
      rcases List.mem_append.1 hc' with hc' | hc'
      · exact ha c' hc'
      · simp at hc'; subst hc'; exact deriv_holds hf hc ha e
end Go.Proofs.Ytdmndikenejhiaa
