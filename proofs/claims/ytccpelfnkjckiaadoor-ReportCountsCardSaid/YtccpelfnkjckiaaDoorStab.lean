/-
  PLAIN LAW: merging in place by rotations (symMerge), and insertion sort, at a comparison with ranks: what they leave is ascending by comparison and rank.
-/
import Derived.Sort.LotA
namespace Go.Proofs.YtccpelfnkjckiaaDoor
open Go.Sort

section
set_option linter.unusedSectionVars false
variable {α : Type} [Inhabited α]

/-- The order: by the comparison, then by the rank. -/
def ltK (cf : α → α → Int) (rk : α → Nat) (x y : α) : Bool := decide (cf x y < 0) || (decide (cf x y = 0) && decide (rk x < rk y))
/-- The comparison is one of a total order up to equality, and ranks are told apart. -/
structure CmpOk (cf : α → α → Int) (rk : α → Nat) : Prop where
  anti : ∀ x y, cf x y < 0 ↔ 0 < cf y x
  trans : ∀ x y z, cf x y ≤ 0 → cf y z ≤ 0 → cf x z ≤ 0
  inj : ∀ x y, rk x = rk y → x = y
variable {cf : α → α → Int} {rk : α → Nat}
theorem CmpOk.refl (h : CmpOk cf rk) (x : α) : cf x x = 0 := by have := h.anti x x; omega
theorem CmpOk.zero (h : CmpOk cf rk) {x y : α} (e : cf x y = 0) : cf y x = 0 := by have := h.anti x y; have := h.anti y x; omega
theorem CmpOk.lt_trans (h : CmpOk cf rk) {x y z : α} (h1 : cf x y < 0) (h2 : cf y z ≤ 0) : cf x z < 0 := by
  have h3 := h.trans x y z (by omega) h2
  rcases Int.lt_or_eq_of_le h3 with h4 | h4
  · exact h4
  · have h5 := h.trans y z x h2 (by have := h.zero h4; omega)
    have := h.anti x y
    omega
theorem CmpOk.lt_trans' (h : CmpOk cf rk) {x y z : α} (h1 : cf x y ≤ 0) (h2 : cf y z < 0) : cf x z < 0 := by
  have h3 := h.trans x y z h1 (by omega)
  rcases Int.lt_or_eq_of_le h3 with h4 | h4
  · exact h4
  · have h5 := h.trans z x y (by have := h.zero h4; omega) h1
    have := h.anti y z
    omega
theorem ltK_iff {x y : α} : ltK cf rk x y = true ↔ cf x y < 0 ∨ (cf x y = 0 ∧ rk x < rk y) := by simp [ltK]
theorem ltK_le {x y : α} (h : ltK cf rk x y = true) : cf x y ≤ 0 := by rw [ltK_iff] at h; omega
theorem ltK_swo (h : CmpOk cf rk) : SWO (ltK cf rk) where
  irrefl x := by
    have := h.refl x
    rw [Bool.eq_false_iff, ne_eq, ltK_iff]; omega
  trans x y z h1 h2 := by
    have h3 := h.trans x y z (ltK_le h1) (ltK_le h2)
    rw [ltK_iff] at h1 h2 ⊢
    rcases h1 with h1 | ⟨h1, r1⟩
    · exact .inl (h.lt_trans h1 (by omega))
    · rcases h2 with h2 | ⟨h2, r2⟩
      · exact .inl (h.lt_trans' (by omega) h2)
      · by_cases e : cf x z = 0
        · exact .inr ⟨e, by omega⟩
        · exact .inl (by omega)
  ntrans x y z h1 h2 := by
    rw [Bool.eq_false_iff, ne_eq, ltK_iff] at h1 h2 ⊢
    have a1 : cf y x ≤ 0 := by have := h.anti x y; have := h.anti y x; omega
    have a2 : cf z y ≤ 0 := by have := h.anti y z; have := h.anti z y; omega
    intro h3
    have a3 := h.trans z y x a2 a1
    rcases h3 with h3 | ⟨h3, r3⟩
    · have := h.anti x z; omega
    · have e1 : cf x y = 0 := by
        have := h.trans x z y (by omega) a2
        have := h.anti x y; omega
      have e2 : cf y z = 0 := by
        have := h.trans y x z a1 (by omega)
        have := h.anti y z; omega
      omega
theorem ltK_total (h : CmpOk cf rk) {x y : α} (hne : ltK cf rk y x = false) (hxy : x ≠ y) : ltK cf rk x y = true := by
  rw [Bool.eq_false_iff, ne_eq, ltK_iff] at hne
  rw [ltK_iff]
  have := h.anti x y; have := h.anti y x
  by_cases e : cf x y = 0
  · have := h.zero e
    have : rk x ≠ rk y := fun e => hxy (h.inj x y e)
    exact .inr ⟨e, by omega⟩
  · exact .inl (by omega)

/-- Ascending on [a, b). -/
def SrtK (cf : α → α → Int) (rk : α → Nat) (a b : Nat) (d : Array α) : Prop := ∀ p q, a ≤ p → p < q → q < b → ltK cf rk d[p]! d[q]! = true
/-- Where the comparison does not tell two apart on [a, b), their ranks ascend. -/
def Coh (cf : α → α → Int) (rk : α → Nat) (a b : Nat) (d : Array α) : Prop := ∀ p q, a ≤ p → p < q → q < b → cf d[p]! d[q]! = 0 → rk d[p]! < rk d[q]!

theorem SrtK.coh {a b : Nat} {d : Array α} (h : SrtK cf rk a b d) : Coh cf rk a b d := fun p q h1 h2 h3 e => by
  have := h p q h1 h2 h3
  rw [ltK_iff] at this; omega
theorem SrtK.mono {a b a' b' : Nat} {d : Array α} (h : SrtK cf rk a b d) (h1 : a ≤ a') (h2 : b' ≤ b) : SrtK cf rk a' b' d := fun p q h3 h4 h5 => h p q (by omega) h4 (by omega)
theorem Coh.mono {a b a' b' : Nat} {d : Array α} (h : Coh cf rk a b d) (h1 : a ≤ a') (h2 : b' ≤ b) : Coh cf rk a' b' d := fun p q h3 h4 h5 => h p q (by omega) h4 (by omega)
theorem SrtK.congr {a b : Nat} {d d' : Array α} (h : SrtK cf rk a b d) (he : ∀ i, a ≤ i → i < b → d'[i]! = d[i]!) : SrtK cf rk a b d' := fun p q h1 h2 h3 => by
  rw [he p h1 (by omega), he q (by omega) h3]; exact h p q h1 h2 h3
/-- A part is permuted and stands ascending behind it: ranks stay in order on the whole. -/
theorem Coh.part {a b lo hi : Nat} {d d' : Array α} (h : Coh cf rk lo hi d) (hp : PermIn a b d d') (hs : SrtK cf rk a b d') (hb : b ≤ d.size) (h1 : lo ≤ a) (h2 : b ≤ hi) : Coh cf rk lo hi d' := by
  have out := hp.2.1
  intro p q hp1 hpq hq e
  by_cases hpa : a ≤ p ∧ p < b
  · by_cases hqa : q < b
    · exact hs.coh p q hpa.1 hpq hqa e
    · rw [out q (by omega)] at e ⊢
      exact permIn_all d d' a b (fun x => cf x d[q]! = 0 → rk x < rk d[q]!) hb hp (fun i h3 h4 => h i q (by omega) (by omega) hq) p hpa.1 hpa.2 e
  · rw [out p (by omega)] at e ⊢
    by_cases hqa : a ≤ q ∧ q < b
    · exact permIn_all d d' a b (fun x => cf d[p]! x = 0 → rk d[p]! < rk x) hb hp (fun i h3 h4 => h p i hp1 (by omega) (by omega)) q hqa.1 hqa.2 e
    · rw [out q (by omega)] at e ⊢
      exact h p q hp1 hpq hq e

/-! ### insertion sort -/
theorem coh_swap {a b j : Nat} {d : Array α} (hc : Coh cf rk a b d) (ha : a ≤ j) (hj : j + 1 < b) (hb : b ≤ d.size) (hl : cf d[j + 1]! d[j]! < 0) : Coh cf rk a b (swp d (j + 1) j) := by
  intro p q h1 h2 h3
  rw [swp_get d (by omega) (by omega), swp_get d (by omega) (by omega)]
  by_cases e1 : p = j
  · by_cases e2 : q = j + 1
    · subst e1 e2
      simp
      intro e; omega
    · subst e1
      simp [show q ≠ p by omega, e2]
      exact hc (p + 1) q (by omega) (by omega) h3
  · by_cases e2 : p = j + 1
    · subst e2
      simp [show q ≠ j by omega, show q ≠ j + 1 by omega]
      exact hc j q ha (by omega) h3
    · by_cases e3 : q = j
      · subst e3
        simp [e1, e2]
        exact hc p (q + 1) h1 (by omega) (by omega)
      · by_cases e4 : q = j + 1
        · subst e4
          simp [e1, e2]
          exact hc p j h1 (by omega) (by omega)
        · simp [e1, e2, e3, e4]
          exact hc p q h1 h2 h3
theorem ltOf_eq (h : CmpOk cf rk) {a b j : Nat} {d : Array α} (hc : Coh cf rk a b d) (ha : a ≤ j) (hj : j + 1 < b) : decide (cf d[j + 1]! d[j]! < 0) = ltK cf rk d[j + 1]! d[j]! := by
  rw [Bool.eq_iff_iff, ltK_iff, decide_eq_true_iff]
  have := hc j (j + 1) ha (by omega) hj
  have := fun e => h.zero (x := d[j + 1]!) (y := d[j]!) e
  omega
theorem insInner_eq (h : CmpOk cf rk) (a b j : Nat) (d : Array α) (hc : Coh cf rk a b d) (hj : j < b) (hb : b ≤ d.size) :
    insInner (fun x y => decide (cf x y < 0)) a j d = insInner (ltK cf rk) a j d ∧ Coh cf rk a b (insInner (ltK cf rk) a j d) ∧ (insInner (ltK cf rk) a j d).size = d.size := by
  induction j generalizing d with
  | zero => exact ⟨rfl, hc, rfl⟩
  | succ j ih =>
    unfold insInner
    by_cases hja : a ≤ j
    · rw [ltOf_eq h hc hja hj]
      cases hl : ltK cf rk d[j + 1]! d[j]!
      · simp; exact hc
      · simp only [show j + 1 > a from by omega, decide_true, Bool.and_self, if_true]
        have hcf : cf d[j + 1]! d[j]! < 0 := by have := ltOf_eq h hc hja hj; rw [hl] at this; exact of_decide_eq_true this
        have := ih (swp d (j + 1) j) (coh_swap hc hja hj hb hcf) (by omega) (by rw [size_swp]; exact hb)
        rwa [size_swp] at this
    · simp [show ¬ (j + 1 > a) by omega]; exact hc
theorem insOuter_eq (h : CmpOk cf rk) (a b i : Nat) (d : Array α) (hc : Coh cf rk a b d) (hb : b ≤ d.size) :
    insOuter (fun x y => decide (cf x y < 0)) a b i d = insOuter (ltK cf rk) a b i d ∧ Coh cf rk a b (insOuter (ltK cf rk) a b i d) := by
  generalize hn : b - i = n
  induction n generalizing i d with
  | zero =>
    unfold insOuter
    rw [if_neg (by omega), if_neg (by omega)]
    exact ⟨rfl, hc⟩
  | succ n ih =>
    unfold insOuter
    obtain ⟨e1, e2, e3⟩ := insInner_eq h a b i d hc (by omega) hb
    rw [if_pos (by omega), if_pos (by omega), e1]
    exact ih (i + 1) _ e2 (by rw [e3]; exact hb) (by omega)
theorem ins_srt (h : CmpOk cf rk) {a b : Nat} {d : Array α} (hc : Coh cf rk a b d) (hab : a ≤ b) (hb : b ≤ d.size) :
    PermIn a b d (insertionSort (fun x y => decide (cf x y < 0)) d a b) ∧ SrtK cf rk a b (insertionSort (fun x y => decide (cf x y < 0)) d a b) := by
  have e : insertionSort (fun x y => decide (cf x y < 0)) d a b = insertionSort (ltK cf rk) d a b ∧ Coh cf rk a b (insertionSort (ltK cf rk) d a b) := insOuter_eq h a b (a + 1) d hc hb
  rw [e.1]
  obtain ⟨h1, h2⟩ := insertionSort_holds (lt := ltK cf rk) (ltK_swo h) d a b hab hb
  refine ⟨h1, fun p q h3 h4 h5 => ?_⟩
  have h6 := h2 p q h3 h4 h5
  have h7 := e.2 p q h3 h4 h5
  generalize (insertionSort (ltK cf rk) d a b)[p]! = x at *
  generalize (insertionSort (ltK cf rk) d a b)[q]! = y at *
  rw [Bool.eq_false_iff, ne_eq, ltK_iff] at h6
  rw [ltK_iff]
  have := h.anti x y; have := h.anti y x
  by_cases e : cf x y = 0
  · exact .inr ⟨e, h7 e⟩
  · exact .inl (by omega)

/-! ### rotations -/
/-- Where the places of [a, b) come from when [a, m) and [m, b) change places. -/
def rotI (a m b k : Nat) : Nat := if a ≤ k ∧ k < a + (b - m) then k + (m - a) else if a + (b - m) ≤ k ∧ k < b then k - (b - m) else k
/-- Where the places come from when [a, a + n) and [b, b + n) change places. -/
def swI (a b n k : Nat) : Nat := if a ≤ k ∧ k < a + n then k + (b - a) else if b ≤ k ∧ k < b + n then k - (b - a) else k

theorem rot_left {m i j : Nat} (hij : j < i) (hi : i ≤ m) (k : Nat) : rotI (m - i) m (m + j) k = swI (m - i) m j (rotI (m - (i - j)) m (m + j) k) := by
  unfold rotI swI
  split
  · split
    · split
      · omega
      · split <;> omega
    · split
      · split
        · omega
        · split <;> omega
      · split
        · omega
        · split <;> omega
  · split
    · split
      · split
        · omega
        · split <;> omega
      · split
        · split
          · omega
          · split <;> omega
        · split
          · omega
          · split <;> omega
    · split
      · split
        · omega
        · split <;> omega
      · split
        · split
          · omega
          · split <;> omega
        · split
          · omega
          · split <;> omega
theorem rot_right {m i j : Nat} (hij : i < j) (hi : i ≤ m) (k : Nat) : rotI (m - i) m (m + j) k = swI (m - i) (m + j - i) i (rotI (m - i) m (m + (j - i)) k) := by
  unfold rotI swI
  split
  · split
    · split
      · omega
      · split <;> omega
    · split
      · split
        · omega
        · split <;> omega
      · split
        · omega
        · split <;> omega
  · split
    · split
      · split
        · omega
        · split <;> omega
      · split
        · split
          · omega
          · split <;> omega
        · split
          · omega
          · split <;> omega
    · split
      · split
        · omega
        · split <;> omega
      · split
        · split
          · omega
          · split <;> omega
        · split
          · omega
          · split <;> omega
theorem rot_even {m i : Nat} (hi : i ≤ m) (k : Nat) : rotI (m - i) m (m + i) k = swI (m - i) m i k := by
  unfold rotI swI
  split
  · split
    · omega
    · split <;> omega
  · split
    · split
      · omega
      · split <;> omega
    · split
      · omega
      · split <;> omega

/-! ### one step of the merging -/
/-- [a, m) and [m, b) ascend, ranks stand in order between them; [s, m) and [m, e) have changed places, all of [m, e) is less than all of [s, m). -/
theorem rot_coh {s m e a b : Nat} {d d' : Array α} (hsm : s ≤ m) (hme : m ≤ e) (has : a ≤ s) (heb : e ≤ b) (hr : ∀ k, d'[k]! = d[rotI s m e k]!) (hc : Coh cf rk a b d)
    (hlt : ∀ p q, s ≤ p → p < m → m ≤ q → q < e → cf d[q]! d[p]! < 0) : Coh cf rk a b d' := by
  intro p q h1 h2 h3
  rw [hr p, hr q]
  unfold rotI
  split
  · split
    · exact hc _ _ (by omega) (by omega) (by omega)
    · split
      · have := hlt (q - (e - m)) (p + (m - s)) (by omega) (by omega) (by omega) (by omega)
        intro e; omega
      · exact hc _ _ (by omega) (by omega) (by omega)
  · split
    · split
      · omega
      · split
        · exact hc _ _ (by omega) (by omega) (by omega)
        · exact hc _ _ (by omega) (by omega) (by omega)
    · split
      · exact hc _ _ (by omega) (by omega) (by omega)
      · split
        · exact hc _ _ (by omega) (by omega) (by omega)
        · exact hc _ _ (by omega) (by omega) (by omega)
/-- The four parts behind the change of places, and that the first two are less than the others. -/
theorem rot_parts {s m e a b : Nat} {d d' : Array α} (hsm : s ≤ m) (hme : m ≤ e) (has : a ≤ s) (heb : e ≤ b) (hr : ∀ k, d'[k]! = d[rotI s m e k]!)
    (h1 : SrtK cf rk a m d) (h2 : SrtK cf rk m b d)
    (hlt : ∀ p q, s ≤ p → p < m → m ≤ q → q < e → cf d[q]! d[p]! < 0) (hle : ∀ p q, a ≤ p → p < s → e ≤ q → q < b → ltK cf rk d[p]! d[q]! = true) :
    SrtK cf rk a s d' ∧ SrtK cf rk s (s + (e - m)) d' ∧ SrtK cf rk (s + (e - m)) e d' ∧ SrtK cf rk e b d' ∧
    ∀ p q, a ≤ p → p < s + (e - m) → s + (e - m) ≤ q → q < b → ltK cf rk d'[p]! d'[q]! = true := by
  have g1 : ∀ k, k < s → d'[k]! = d[k]! := fun k hk => by rw [hr]; unfold rotI; rw [if_neg (by omega), if_neg (by omega)]
  have g2 : ∀ k, s ≤ k → k < s + (e - m) → d'[k]! = d[k + (m - s)]! := fun k hk hk2 => by rw [hr]; unfold rotI; rw [if_pos (by omega)]
  have g3 : ∀ k, s + (e - m) ≤ k → k < e → d'[k]! = d[k - (e - m)]! := fun k hk hk2 => by rw [hr]; unfold rotI; rw [if_neg (by omega), if_pos (by omega)]
  have g4 : ∀ k, e ≤ k → d'[k]! = d[k]! := fun k hk => by rw [hr]; unfold rotI; rw [if_neg (by omega), if_neg (by omega)]
  refine ⟨fun p q a1 a2 a3 => ?_, fun p q a1 a2 a3 => ?_, fun p q a1 a2 a3 => ?_, fun p q a1 a2 a3 => ?_, fun p q a1 a2 a3 a4 => ?_⟩
  · rw [g1 p (by omega), g1 q (by omega)]; exact h1 p q a1 a2 (by omega)
  · rw [g2 p (by omega) (by omega), g2 q (by omega) (by omega)]; exact h2 _ _ (by omega) (by omega) (by omega)
  · rw [g3 p (by omega) (by omega), g3 q (by omega) (by omega)]; exact h1 _ _ (by omega) (by omega) (by omega)
  · rw [g4 p (by omega), g4 q (by omega)]; exact h2 p q (by omega) a2 (by omega)
  · by_cases c1 : p < s
    · rw [g1 p c1]
      by_cases c2 : q < e
      · rw [g3 q a3 c2]; exact h1 _ _ a1 (by omega) (by omega)
      · rw [g4 q (by omega)]; exact hle p q a1 c1 (by omega) a4
    · rw [g2 p (by omega) a2]
      by_cases c2 : q < e
      · rw [g3 q a3 c2, ltK_iff]; exact .inl (hlt _ _ (by omega) (by omega) (by omega) (by omega))
      · rw [g4 q (by omega)]; exact h2 _ _ (by omega) (by omega) a4
/-- Two parts, each less than the other part's elements, are put in order each by itself. -/
theorem two_parts {a c b : Nat} {d d1 d2 : Array α} (hc : a ≤ c) (hcb : c ≤ b) (hb : b ≤ d.size) (hx : ∀ p q, a ≤ p → p < c → c ≤ q → q < b → ltK cf rk d[p]! d[q]! = true)
    (p1 : PermIn a c d d1) (s1 : SrtK cf rk a c d1) (p2 : PermIn c b d1 d2) (s2 : SrtK cf rk c b d2) : PermIn a b d d2 ∧ SrtK cf rk a b d2 := by
  have z1 : d1.size = d.size := p1.1
  refine ⟨permIn_trans _ _ _ _ _ (permIn_mono d d1 a c a b (Nat.le_refl _) hcb hb p1) (permIn_mono d1 d2 c b a b hc (Nat.le_refl _) (by omega) p2), fun p q h1 h2 h3 => ?_⟩
  by_cases c1 : q < c
  · rw [p2.2.1 p (.inl (by omega)), p2.2.1 q (.inl c1)]; exact s1 p q h1 h2 c1
  · by_cases c2 : c ≤ p
    · exact s2 p q c2 h2 h3
    · rw [p2.2.1 p (.inl (by omega))]
      refine permIn_all d1 d2 c b (fun y => ltK cf rk d1[p]! y = true) (by omega) p2 (fun i i1 i2 => ?_) q (by omega) h3
      rw [p1.2.1 i (.inr i1)]
      exact permIn_all d d1 a c (fun x => ltK cf rk x d[i]! = true) (by omega) p1 (fun j j1 j2 => hx j i j1 j2 i1 i2) p h1 (by omega)
theorem srt_join {a c b : Nat} {d : Array α} (h1 : SrtK cf rk a c d) (h2 : SrtK cf rk c b d) (h : c ≤ a ∨ b ≤ c) : SrtK cf rk a b d := by
  rcases h with h | h
  · exact h2.mono h (Nat.le_refl _)
  · exact h1.mono (Nat.le_refl _) h
theorem ltK_of (h : CmpOk cf rk) {a b p q : Nat} {d : Array α} (hc : Coh cf rk a b d) (h1 : a ≤ p) (h2 : p < q) (h3 : q < b) (hn : ¬ cf d[q]! d[p]! < 0) : ltK cf rk d[p]! d[q]! = true := by
  rw [ltK_iff]
  have := h.anti d[p]! d[q]!
  have := h.anti d[q]! d[p]!
  have := hc p q h1 h2 h3
  omega
/-- What the search for the middle tells: all of [m, n - c) is less than all of [c, m). -/
theorem search_lt (h : CmpOk cf rk) {a m b n c e : Nat} {d : Array α} (he : e + c = n) (h1 : SrtK cf rk a m d) (h2 : SrtK cf rk m b d) (hac : a ≤ c) (heb : e ≤ b)
    (hs : m ≤ c ∨ e ≤ m ∨ cf d[n - 1 - c]! d[c]! < 0) : ∀ p q, c ≤ p → p < m → m ≤ q → q < e → cf d[q]! d[p]! < 0 := by
  intro p q a1 a2 a3 a4
  rcases hs with hs | hs | hs
  · omega
  · omega
  · have e1 : n - 1 - c = e - 1 := by omega
    rw [e1] at hs
    have b1 : cf d[q]! d[e - 1]! ≤ 0 := by
      by_cases hq : q = e - 1
      · rw [hq, h.refl]; exact Int.le_refl _
      · exact ltK_le (h2 q (e - 1) a3 (by omega) (by omega))
    have b2 : cf d[c]! d[p]! ≤ 0 := by
      by_cases hq : c = p
      · rw [hq, h.refl]; exact Int.le_refl _
      · exact ltK_le (h1 c p hac (by omega) a2)
    exact h.lt_trans (h.lt_trans' b1 hs) b2
theorem search_le (h : CmpOk cf rk) {a m b n c e : Nat} {d : Array α} (he : e + c = n) (h1 : SrtK cf rk a m d) (h2 : SrtK cf rk m b d) (hco : Coh cf rk a b d) (hcm : c ≤ m) (hme : m ≤ e)
    (hs : c ≤ a ∨ b ≤ e ∨ ¬ cf d[n - c]! d[c - 1]! < 0) : ∀ p q, a ≤ p → p < c → e ≤ q → q < b → ltK cf rk d[p]! d[q]! = true := by
  intro p q a1 a2 a3 a4
  rcases hs with hs | hs | hs
  · omega
  · omega
  · have e1 : n - c = e := by omega
    rw [e1] at hs
    have hk := ltK_of h hco (p := c - 1) (q := e) (by omega) (by omega) (by omega) hs
    have t := (ltK_swo h).trans
    have b1 : ltK cf rk d[p]! d[e]! = true := by
      by_cases hq : p = c - 1
      · rw [hq]; exact hk
      · exact t _ _ _ (h1 p (c - 1) a1 (by omega) (by omega)) hk
    by_cases hq : q = e
    · rw [hq]; exact b1
    · exact t _ _ _ b1 (h2 e q hme (by omega) a4)
/-- The whole step. -/
theorem sym_step (h : CmpOk cf rk) {a m b mid c e : Nat} {d d' d1 d2 : Array α} (hb : b ≤ d.size) (hac : a ≤ c) (hcm : c ≤ m) (hme : m ≤ e) (heb : e ≤ b) (he : e + c = mid + m)
    (h1 : SrtK cf rk a m d) (h2 : SrtK cf rk m b d) (hco : Coh cf rk a b d)
    (hs1 : m ≤ c ∨ e ≤ m ∨ cf d[mid + m - 1 - c]! d[c]! < 0) (hs2 : c ≤ a ∨ b ≤ e ∨ ¬ cf d[mid + m - c]! d[c - 1]! < 0)
    (hr : ∀ k, d'[k]! = d[rotI c m e k]!) (hp : PermIn c e d d')
    (k1 : (SrtK cf rk a c d' → SrtK cf rk c mid d' → Coh cf rk a mid d' → PermIn a mid d' d1 ∧ SrtK cf rk a mid d1))
    (k2 : (SrtK cf rk mid e d1 → SrtK cf rk e b d1 → Coh cf rk mid b d1 → PermIn mid b d1 d2 ∧ SrtK cf rk mid b d2)) :
    PermIn a b d d2 ∧ SrtK cf rk a b d2 := by
  have hlt := search_lt h he h1 h2 hac heb hs1
  have hle := search_le h he h1 h2 hco hcm hme hs2
  have hcoh := rot_coh hcm hme hac heb hr hco hlt
  obtain ⟨q1, q2, q3, q4, q5⟩ := rot_parts hcm hme hac heb hr h1 h2 hlt hle
  have em : c + (e - m) = mid := by omega
  rw [em] at q2 q3 q5
  obtain ⟨u1, u2⟩ := k1 q1 q2 (hcoh.mono (Nat.le_refl _) (by omega))
  have z := hp.1
  have out : ∀ i, mid ≤ i → d1[i]! = d'[i]! := fun i hi => u1.2.1 i (.inr hi)
  obtain ⟨v1, v2⟩ := k2 (q3.congr fun i i1 _ => out i i1) (q4.congr fun i i1 _ => out i (by omega)) (fun p q i1 i2 i3 => by rw [out p i1, out q (by omega)]; exact hcoh p q (by omega) i2 i3)
  obtain ⟨w1, w2⟩ := two_parts (by omega) (by omega) (by omega) q5 u1 u2 v1 v2
  exact ⟨permIn_trans _ _ _ _ _ (permIn_mono d d' c e a b hac heb hb hp) w1, w2⟩
/-- One element is put into a row. -/
theorem one_left (h : CmpOk cf rk) {a b i : Nat} {d d' : Array α} (hb : b ≤ d.size) (hai : a + 1 ≤ i) (hib : i ≤ b) (h2 : SrtK cf rk (a + 1) b d) (hco : Coh cf rk a b d)
    (hs1 : i ≤ a + 1 ∨ cf d[i - 1]! d[a]! < 0) (hs2 : b ≤ i ∨ ¬ cf d[i]! d[a]! < 0)
    (hr : ∀ k, d'[k]! = d[rotI a (a + 1) i k]!) (hp : PermIn a i d d') : PermIn a b d d' ∧ SrtK cf rk a b d' := by
  have h1 : SrtK cf rk a (a + 1) d := fun p q _ _ _ => by omega
  have hlt := search_lt h (a := a) (m := a + 1) (b := b) (n := i + a) (c := a) (e := i) (by omega) h1 h2 (Nat.le_refl _) hib (by rw [show i + a - 1 - a = i - 1 by omega]; omega)
  obtain ⟨q1, q2, q3, q4, q5⟩ := rot_parts (s := a) (m := a + 1) (e := i) (a := a) (b := b) (by omega) hai (Nat.le_refl _) hib hr h1 h2 hlt (fun p q _ _ _ _ => by omega)
  refine ⟨permIn_mono d d' a i a b (Nat.le_refl _) hib hb hp, fun p q a1 a2 a3 => ?_⟩
  by_cases c1 : q < a + (i - (a + 1))
  · exact q2 p q a1 a2 c1
  · by_cases c2 : p < a + (i - (a + 1))
    · exact q5 p q a1 c2 (by omega) a3
    · by_cases c3 : i ≤ p
      · exact q4 p q c3 a2 a3
      · have e1 : d'[p]! = d[a]! := by rw [hr]; unfold rotI; rw [if_neg (by omega), if_pos (by omega)]; congr 1; omega
        have e2 : d'[q]! = d[q]! := by rw [hr]; unfold rotI; rw [if_neg (by omega), if_neg (by omega)]
        rw [e1, e2]
        have hk := ltK_of h hco (p := a) (q := i) (Nat.le_refl _) (by omega) (by omega) (by rcases hs2 with hs2 | hs2; omega; exact hs2)
        by_cases c4 : q = i
        · rw [c4]; exact hk
        · exact (ltK_swo h).trans _ _ _ hk (h2 i q hai (by omega) a3)
theorem one_right (h : CmpOk cf rk) {a b m i : Nat} {d d' : Array α} (hm : m + 1 = b) (hb : b ≤ d.size) (hai : a ≤ i) (him : i ≤ m) (h1 : SrtK cf rk a m d) (hco : Coh cf rk a b d)
    (hs1 : m ≤ i ∨ cf d[m]! d[i]! < 0) (hs2 : i ≤ a ∨ ¬ cf d[m]! d[i - 1]! < 0)
    (hr : ∀ k, d'[k]! = d[rotI i m b k]!) (hp : PermIn i b d d') : PermIn a b d d' ∧ SrtK cf rk a b d' := by
  subst hm
  have h2 : SrtK cf rk m (m + 1) d := fun p q _ _ _ => by omega
  have hlt := search_lt h (a := a) (m := m) (b := m + 1) (n := i + m + 1) (c := i) (e := m + 1) (by omega) h1 h2 hai (Nat.le_refl _) (by rw [show i + m + 1 - 1 - i = m by omega]; omega)
  obtain ⟨q1, q2, q3, q4, q5⟩ := rot_parts (s := i) (m := m) (e := m + 1) (a := a) (b := m + 1) him (by omega) hai (Nat.le_refl _) hr h1 h2 hlt (fun p q _ _ _ _ => by omega)
  refine ⟨permIn_mono d d' i (m + 1) a (m + 1) hai (Nat.le_refl _) hb hp, fun p q a1 a2 a3 => ?_⟩
  by_cases c1 : q < i
  · exact q1 p q a1 a2 c1
  · by_cases c2 : i + 1 ≤ p
    · exact q3 p q (by omega) a2 a3
    · by_cases c3 : q = i
      · have e1 : d'[q]! = d[m]! := by rw [hr]; unfold rotI; rw [if_pos (by omega)]; congr 1; omega
        have e2 : d'[p]! = d[p]! := by rw [hr]; unfold rotI; rw [if_neg (by omega), if_neg (by omega)]
        rw [e1, e2]
        have hk := ltK_of h hco (p := i - 1) (q := m) (by omega) (by omega) (by omega) (by rcases hs2 with hs2 | hs2; omega; exact hs2)
        by_cases c4 : p = i - 1
        · rw [c4]; exact hk
        · exact (ltK_swo h).trans _ _ _ (h1 p (i - 1) a1 (by omega) (by omega)) hk
      · exact q5 p q a1 (by omega) (by omega) a3
/-- Places one beside the other are exchanged: an element moves up, or down, by one more. -/
theorem rot_up {a i k : Nat} {d d' : Array α} (hk : k + 1 < d.size) (hak : a ≤ k) (hr : ∀ j, d'[j]! = d[rotI a (a + 1) (k + 1) j]!) (hz : d'.size = d.size) (j : Nat) (_hi : k + 1 < i) :
    (swp d' k (k + 1))[j]! = d[rotI a (a + 1) (k + 2) j]! := by
  rw [swp_get d' (by omega) (by omega), hr, hr, hr]
  unfold rotI
  split
  · subst j
    rw [if_neg (by omega), if_pos (by omega), if_neg (by omega), if_pos (by omega)]; congr 1; omega
  · split
    · subst j
      rw [if_neg (by omega), if_neg (by omega), if_pos (by omega)]; congr 1; omega
    · split
      · rw [if_pos (by omega)]
      · split
        · omega
        · rw [if_neg (by omega), if_neg (by omega)]
theorem rot_down {m k : Nat} {d d' : Array α} (hm : m < d.size) (hkm : k + 1 ≤ m) (hr : ∀ j, d'[j]! = d[rotI (k + 1) m (m + 1) j]!) (hz : d'.size = d.size) (j : Nat) :
    (swp d' (k + 1) k)[j]! = d[rotI k m (m + 1) j]! := by
  rw [swp_get d' (by omega) (by omega), hr, hr, hr]
  unfold rotI
  split
  · subst j
    rw [if_pos (by omega), if_pos (by omega)]; congr 1; omega
  · split
    · subst j
      rw [if_neg (by omega), if_neg (by omega), if_neg (by omega), if_pos (by omega)]; congr 1; omega
    · split
      · omega
      · split
        · rw [if_neg (by omega), if_pos (by omega)]
        · rw [if_neg (by omega), if_neg (by omega)]
theorem rotI_id (a m k : Nat) (h : a ≤ m) : rotI a m m k = k := by
  unfold rotI
  split
  · omega
  · split <;> omega
theorem rotI_id' (m b k : Nat) (h : m ≤ b) : rotI m m b k = k := by
  unfold rotI
  split
  · omega
  · split <;> omega
theorem swI_zero (a b k : Nat) : swI a b 0 k = k := by
  unfold swI
  split
  · omega
  · split <;> omega
theorem sw_more {a b n : Nat} {d d' : Array α} (hab : a + (n + 1) ≤ b) (hb : b + n < d.size) (hr : ∀ j, d'[j]! = d[swI a b n j]!) (hz : d'.size = d.size) (j : Nat) :
    (swp d' (a + n) (b + n))[j]! = d[swI a b (n + 1) j]! := by
  rw [swp_get d' (by omega) (by omega), hr, hr, hr]
  unfold swI
  split
  · subst j
    rw [if_neg (by omega), if_neg (by omega), if_neg (by omega), if_pos (by omega)]; congr 1; omega
  · split
    · subst j
      rw [if_neg (by omega), if_neg (by omega), if_pos (by omega)]; congr 1; omega
    · split
      · rw [if_pos (by omega)]
      · split
        · rw [if_neg (by omega), if_pos (by omega)]
        · rw [if_neg (by omega), if_neg (by omega)]
/-! ### blocks -/
/-- The blocks of n places that begin at lo, lo + s, .. ascend. -/
def BlkS (cf : α → α → Int) (rk : α → Nat) (s lo n : Nat) (d : Array α) : Prop := ∀ t, SrtK cf rk (lo + t * s) (min n (lo + (t + 1) * s)) d
/-- The blocks of s places up to hi ascend. -/
def DoneS (cf : α → α → Int) (rk : α → Nat) (s hi : Nat) (d : Array α) : Prop := ∀ t, (t + 1) * s ≤ hi → SrtK cf rk (t * s) ((t + 1) * s) d
theorem DoneS.zero {s : Nat} (hs : 0 < s) (d : Array α) : DoneS cf rk s 0 d := fun t ht => by
  have : (t + 1) * s = t * s + s := Nat.succ_mul _ _
  omega
theorem DoneS.step {s T : Nat} {d d' : Array α} (h : DoneS cf rk s (T * s) d) (hp : PermIn (T * s) (T * s + s) d d') (hn : SrtK cf rk (T * s) (T * s + s) d') (hs : 0 < s) : DoneS cf rk s ((T + 1) * s) d' := by
  intro t ht
  rcases Nat.lt_trichotomy t T with h1 | h1 | h1
  · have h2 : (t + 1) * s ≤ T * s := Nat.mul_le_mul_right s h1
    exact (h t h2).congr fun i _ i2 => hp.2.1 i (.inl (by omega))
  · subst h1
    rw [Nat.succ_mul]; exact hn
  · have h2 : (T + 1 + 1) * s ≤ (t + 1) * s := Nat.mul_le_mul_right s (by omega)
    have h3 : (T + 1 + 1) * s = (T + 1) * s + s := Nat.succ_mul _ _
    omega
theorem DoneS.blocks {s T n : Nat} {d : Array α} (h : DoneS cf rk s (T * s) d) (hn : SrtK cf rk (T * s) n d) (hlt : n < T * s + s) : BlkS cf rk s 0 n d := by
  intro t
  rw [Nat.zero_add, Nat.zero_add]
  rcases Nat.lt_trichotomy t T with h1 | h1 | h1
  · have h2 : (t + 1) * s ≤ T * s := Nat.mul_le_mul_right s h1
    exact (h t h2).mono (Nat.le_refl _) (Nat.min_le_right _ _)
  · subst h1; exact hn.mono (Nat.le_refl _) (Nat.min_le_left _ _)
  · have h2 : (T + 1) * s ≤ t * s := Nat.mul_le_mul_right s h1
    have h3 : (T + 1) * s = T * s + s := Nat.succ_mul _ _
    intro p q h4 h5 h6
    have : q < n := Nat.lt_of_lt_of_le h6 (Nat.min_le_left _ _)
    omega
theorem BlkS.first {s lo n : Nat} {d : Array α} (h : BlkS cf rk s lo n d) : SrtK cf rk lo (min n (lo + s)) d := by
  have := h 0
  simpa using this
theorem BlkS.second {s lo n : Nat} {d : Array α} (h : BlkS cf rk s lo n d) : SrtK cf rk (lo + s) (min n (lo + 2 * s)) d := by
  have := h 1
  simpa using this
theorem BlkS.step {s lo n : Nat} {d d' : Array α} (h : BlkS cf rk s lo n d) (hp : PermIn lo (lo + 2 * s) d d') : BlkS cf rk s (lo + 2 * s) n d' := by
  intro t
  have h1 := h (t + 2)
  have e1 : (t + 2) * s = 2 * s + t * s := by rw [Nat.add_mul]; omega
  have e2 : (t + 2 + 1) * s = 2 * s + (t + 1) * s := by rw [Nat.add_mul, Nat.add_mul, Nat.add_mul]; omega
  rw [e1, e2, ← Nat.add_assoc, ← Nat.add_assoc] at h1
  exact h1.congr fun i i1 _ => hp.2.1 i (.inr (by omega))

/-! ### the one order -/
theorem srt_unique (h : CmpOk cf rk) {d d' : Array α} (hp : PermIn 0 d.size d d') (hs : SrtK cf rk 0 d.size d') : d'.toList = d.toList.mergeSort (fun x y => !ltK cf rk y x) := by
  have e : ∀ x y, ltK cf rk x y = false → ltK cf rk y x = false → x = y := by
    intro x y h1 h2
    rcases Classical.em (x = y) with e | e
    · exact e
    · have := ltK_total h h2 e
      rw [h1] at this; cases this
  refine sorted_unique_holds (lt := ltK cf rk) (ltK_swo h) e d d' hp fun i j h1 h2 h3 => ?_
  have h4 := hs i j h1 h2 h3
  cases h5 : ltK cf rk d'[j]! d'[i]! with
  | false => rfl
  | true =>
    have := (ltK_swo h).trans _ _ _ h4 h5
    rw [(ltK_swo h).irrefl] at this; cases this
end
end Go.Proofs.YtccpelfnkjckiaaDoor
