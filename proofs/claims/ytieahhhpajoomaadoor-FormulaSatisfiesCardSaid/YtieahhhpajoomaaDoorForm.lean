/-
  WORDS: slices of slices of numbers; a formula. WALK: interleavelaw31.large.
-/
import Derived.Test.YtieahhhpajoomaaDoorBound
namespace Go.Proofs.YtieahhhpajoomaaDoor
open Go.RowKit

/-- The value v is a slice of slices of numbers: xss. -/
def Mat (w : World) (v : Value) (xss : List (List Int)) : Prop :=
  ∃ A c vs, v = .slice A xss.length c ∧ xss.length ≤ c ∧ c ≤ maxLen ∧ vs.length = xss.length ∧ Rd w A vs ∧ ∀ (k : Nat) (u : Value) (xs : List Int), vs[k]? = some u → xss[k]? = some xs → Ints w u xs

theorem Mat.keep {w w' : World} {v : Value} {xss : List (List Int)} (h : Mat w v xss) (hb : Below w.heap.size w w') : Mat w' v xss := by
  obtain ⟨A, c, vs, hv, hl, hm, hx, hr, hi⟩ := h
  exact ⟨A, c, vs, hv, hl, hm, hx, hr.keep hb, fun k u xs h1 h2 => (hi k u xs h1 h2).keep hb⟩

/-- A formula. -/
structure Form where
  ints : Int
  bools : Int
  atoms : List Diff
  clauses : List (List Int)

/-- The value v is the formula f. -/
def IsForm (w : World) (v : Value) (f : Form) : Prop :=
  ∃ av cv, v = .agg #[.int .i64 f.ints, .int .i64 f.bools, av, cv] ∧ I64 f.ints ∧ I64 f.bools ∧ Diffs w av f.atoms ∧ Mat w cv f.clauses

theorem IsForm.keep {w w' : World} {v : Value} {f : Form} (h : IsForm w v f) (hb : Below w.heap.size w w') : IsForm w' v f := by
  obtain ⟨av, cv, hv, h1, h2, h3, h4⟩ := h
  exact ⟨av, cv, hv, h1, h2, h3.keep hb, h4.keep hb⟩

theorem IsForm.parts {w : World} {a b av cv : Value} {f : Form} (h : IsForm w (.agg #[a, b, av, cv]) f) :
    a = .int .i64 f.ints ∧ b = .int .i64 f.bools ∧ I64 f.ints ∧ I64 f.bools ∧ Diffs w av f.atoms ∧ Mat w cv f.clauses := by
  obtain ⟨av', cv', hv, h1, h2, h3, h4⟩ := h
  injection hv with hv
  simp only [Array.mk.injEq, List.cons.injEq, and_true] at hv
  obtain ⟨e1, e2, e3, e4⟩ := hv
  subst e3 e4
  exact ⟨e1, e2, h1, h2, h3, h4⟩

theorem Mat.at_ {w : World} {A : Option Addr} {vs : List Value} {xss : List (List Int)} (hr : Rd w A vs) (hl : vs.length = xss.length)
    (hi : ∀ (k : Nat) (u : Value) (xs : List Int), vs[k]? = some u → xss[k]? = some xs → Ints w u xs) {k : Nat} {xs : List Int} (hk : xss[k]? = some xs) :
    ∃ b off A' c', A = some ⟨b, off, none⟩ ∧ b < w.heap.size ∧ w.cell? ⟨b, off + k, none⟩ = some (.slice A' xs.length c') ∧ Ints w (.slice A' xs.length c') xs := by
  have hlt : k < vs.length := by have := (List.getElem?_eq_some_iff.1 hk).1; omega
  obtain ⟨u, hu⟩ : ∃ u, vs[k]? = some u := ⟨_, List.getElem?_eq_getElem hlt⟩
  obtain ⟨b, off, hA, hb, hc⟩ := hr.at_ hu
  have h := hi k u xs hu hk
  obtain ⟨A', c', rfl, h'⟩ := h
  exact ⟨b, off, A', c', hA, hb, hc, A', c', rfl, h'⟩

def sumTo : Nat → List Nat → Nat
  | n, [] => n
  | n, l :: r => if n < 1048576 then sumTo (n + l) r else n
def largeF (f : Form) : Bool := decide (2000 < sumTo (f.atoms.length + f.clauses.length) (f.clauses.map List.length))

theorem sumTo_small {n : Nat} {l : List Nat} (h : ¬ 2000 < sumTo n l) : n + l.sum ≤ 2000 := by
  induction l generalizing n with
  | nil => simp [sumTo] at h ⊢; exact h
  | cons a r ih =>
    rw [sumTo] at h
    by_cases hn : n < 1048576
    · rw [if_pos hn] at h
      have := ih h
      simp; omega
    · rw [if_neg hn] at h; omega

theorem largeF_small {f : Form} (h : largeF f = false) : f.atoms.length + f.clauses.length + (f.clauses.map List.length).sum ≤ 2000 :=
  sumTo_small (by simpa [largeF] using h)

theorem ret_bool {a b : Bool} (h : a = b) : Ending.returned (.bool a) = .returned (.bool b) := by rw [h]
theorem ret_int {k : IntKind} {a b : Int} (h : a = b) : Ending.returned (.int k a) = .returned (.int k b) := by rw [h]
theorem decide_congr {p q : Prop} [Decidable p] [Decidable q] (h : p ↔ q) : decide p = decide q := by simp [h]

set_option maxRecDepth 100000 in
set_option maxHeartbeats 400000 in
theorem large_any (v : Value) (f : Form) (w : World) (hf : IsForm w v f) (ha : f.atoms.length ≤ 140737488355328) (hc : f.clauses.length ≤ 140737488355328) (hcl : ∀ xs ∈ f.clauses, xs.length ≤ 140737488355328) :
    Calls Tryd.prog 18 #[v] w fun e w' => e = .returned (.bool (largeF f)) ∧ Below w.heap.size w w' := by
  obtain ⟨av, cv, rfl, h1, h2, ⟨A, c, rfl, ha1, ha2, ha3, har⟩, ⟨A', c', vs, rfl, hc1, hc2, hc3, hcr, hci⟩⟩ := hf
  unfold maxLen at ha2 hc2
  have HCR := Lib.hid hcr
  have HCI := Lib.hid hci
  have HCL := Lib.hid hcl
  have HC3 := Lib.hid hc3
  clear ha3 har hcr hci hcl hc3
  go_enter Tryd.func18, Tryd.ntmps18
  go_wp2
  go_loop [3, 4] (fun s i => ∃ k n : Nat, k ≤ f.clauses.length ∧ i = .int .i64 (k : Nat) ∧ s = .int .i64 (n : Nat) ∧ n ≤ 1000000000000000 ∧ sumTo n ((f.clauses.map List.length).drop k) = sumTo (f.atoms.length + f.clauses.length) (f.clauses.map List.length)) (fun _ i => f.clauses.length - (intOf i).toNat)
  case atStart => exact ⟨0, f.atoms.length + f.clauses.length, by omega, rfl, by go_num, by omega, rfl⟩
  case round =>
    obtain ⟨k, n, hk, rfl, rfl, hn, hs⟩ := hrel
    have HS := Lib.hid hs
    clear hs
    by_cases hlt : k < f.clauses.length
    · by_cases hnn : n < 1048576
      · obtain ⟨xs, hxs⟩ : ∃ x, f.clauses[k]? = some x := ⟨_, List.getElem?_eq_getElem hlt⟩
        obtain ⟨b, off, A1, c1, rfl, hb, hcell, _⟩ := Mat.at_ HCR.out HC3.out HCI.out hxs
        have hx := HCL.out xs (List.mem_of_getElem? hxs)
        have HN : Hid (sumTo (n + xs.length) ((f.clauses.map List.length).drop (k + 1)) = sumTo n ((f.clauses.map List.length).drop k)) := by
          rw [List.drop_eq_getElem_cons (i := k) (by simpa using hlt), sumTo, if_pos hnn]
          have : (f.clauses.map List.length)[k]'(by simpa using hlt) = xs.length := by
            rw [List.getElem_map]
            rw [List.getElem?_eq_getElem hlt] at hxs
            injection hxs with hxs
            rw [hxs]
          rw [this]
          exact rfl
        have hnb : decide ((n : Int) < 1048576) = true := by simp; omega
        have hnI : (n : Int) ≤ 1048575 := by omega
        have hxI : (xs.length : Int) ≤ 140737488355328 := by omega
        have HX := Lib.hid hx
        have HNN := Lib.hid hnn
        clear hxs hnn hn hx
        go_wp2
        go_round
        case rel => exact ⟨k + 1, n + xs.length, by omega, by go_num, by go_num, by have := HX.out; have := HNN.out; omega, by rw [HN.out, HS.out]⟩
        case measure => simp [intOf]; omega
      · have HN : Hid (sumTo n ((f.clauses.map List.length).drop k) = n) := by
          rw [List.drop_eq_getElem_cons (i := k) (by simpa using hlt), sumTo, if_neg hnn]
          exact rfl
        have hnb : decide ((n : Int) < 1048576) = false := by simp; omega
        clear hnn hn
        go_wp2
        go_ret
        exact ⟨ret_bool (by unfold largeF; rw [← HS.out, HN.out]; exact decide_congr (by omega)), by go_grown⟩
    · have HN : Hid (sumTo n ((f.clauses.map List.length).drop k) = n) := by
        rw [List.drop_eq_nil_of_le (by simpa using hlt), sumTo]
        exact rfl
      clear hn
      go_wp2
      go_ret
      exact ⟨ret_bool (by unfold largeF; rw [← HS.out, HN.out]; exact decide_congr (by omega)), by go_grown⟩
end Go.Proofs.YtieahhhpajoomaaDoor
