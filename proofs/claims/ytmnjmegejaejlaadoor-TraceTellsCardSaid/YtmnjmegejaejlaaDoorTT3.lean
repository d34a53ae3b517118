/-
  HOW AN ARGUMENT's READING GIVES THE WORDS FOR MEMORY; and a law's end: the arguments read as they did.
-/
import Derived.Test.YtmnjmegejaejlaaDoorTT2
import Derived.ProofKit
import Derived.OpenShut
import Derived.Deep.Slices
import Derived.Deep.Fields
import Derived.Lib.SmallJoins
import Derived.SizedLaws
import Derived.WideKeyArgs
namespace Go.Proofs.YtmnjmegejaejlaaDoor
open Go.ChangeShapes Go.WideShapes Go.ChangeAt Go.RowKit Go.Deep Go.Joins

theorem list_of {α : Type} {n : Nat} {R : Nat → α → Prop} (h : ∀ i, i < n → ∃ a, R i a) : ∃ xs : List α, xs.length = n ∧ ∀ i a, xs[i]? = some a → R i a := by
  induction n with
  | zero => exact ⟨[], rfl, fun i a h => by simp at h⟩
  | succ n ih =>
    obtain ⟨xs, hl, hx⟩ := ih fun i hi => h i (by omega)
    obtain ⟨a, ha⟩ := h n (by omega)
    refine ⟨xs ++ [a], by simp [hl], fun i b hb => ?_⟩
    rw [List.getElem?_append] at hb
    split at hb
    · exact hx i b hb
    · rename_i hi
      have : i = n := by
        have := (List.getElem?_eq_some_iff.1 hb).1
        simp at this; omega
      subst this
      simp [hl] at hb
      subst hb
      exact ha

theorem flatMap_at {α β : Type} {xs : List α} {g : α → List β} {k : Nat} (hk : ∀ a, (g a).length = k) {j : Nat} {u : β} (h : (xs.flatMap g)[j]? = some u) :
    ∃ i a r, xs[i]? = some a ∧ (g a)[r]? = some u ∧ j = i * k + r ∧ r < k := by
  induction xs generalizing j with
  | nil => simp at h
  | cons a t ih =>
    rw [List.flatMap_cons, List.getElem?_append] at h
    split at h
    · rename_i hlt
      exact ⟨0, a, j, rfl, h, by omega, by rw [hk] at hlt; exact hlt⟩
    · rename_i hge
      obtain ⟨i, b, r, h1, h2, h3, h4⟩ := ih h
      rw [hk] at hge h3
      exact ⟨i + 1, b, r, by simpa using h1, h2, by rw [Nat.succ_mul]; omega, h4⟩

section
variable {H : Type} {enc : TypeId × Value → H} {P : Program} {w : World}

/-- A slice of whatever elements. -/
theorem open_sl {α : Type} {Q : α → DataW H → Prop} {g : α → List Value} {t e : TypeId} {fuel k : Nat} {v : Value} {x : DataW H × List MemPlace} (ht : P.underlying t = some (.slice e)) (hk : P.cellsOf e = k) (hk0 : 0 < k) (hg : ∀ a, (g a).length = k)
    (conv : ∀ n cs y, DataW.trod enc P w 0 (fun _ => true) true n e cs = some y → ∃ a, cs = g a ∧ Q a y.1)
    (h : DataW.trod enc P w 0 (fun _ => true) true fuel t [v] = some x) :
    ∃ (xs : List α) (A : Option Addr) (c : Nat) (D : Nat → DataW H), v = .slice A xs.length c ∧ xs.length ≤ c ∧ c ≤ maxLen ∧ Rd w A (xs.flatMap g) ∧ (∀ i a, xs[i]? = some a → Q a (D i)) ∧
      (∀ i, i < xs.length → ∀ n ∈ (D i).weights P e, n ∈ x.1.weights P t) ∧ (A = none ∨ ∃ n ∈ x.1.weights P t, n = c * P.bytesOf e) := by
  rcases open_slice ht h with ⟨h0, _⟩ | ⟨a, len, cap, m, n, D, Pl, hcs, _, hl, hm, hmm, hx, hi⟩
  · injection h0 with h0
    subst h0
    exact ⟨[], none, 0, fun _ => .nil, rfl, by simp, by simp [maxLen], Rd.nil _ _, by simp, by simp, .inl rfl⟩
  · injection hcs with hcs
    subst hcs
    have hmc : m = cap := by simpa using hmm
    subst hmc
    have key : ∀ i, i < len → ∃ b : α, Q b (D i) ∧ ∀ r u, (g b)[r]? = some u → w.cell? (a.add (i * k + r)) = some u := by
      intro i hil
      obtain ⟨cs', hc, htr⟩ := hi i (by omega)
      obtain ⟨b, hb, hQ⟩ := conv _ _ _ htr
      refine ⟨b, hQ, fun r u hu => ?_⟩
      obtain ⟨_, hcl, hat⟩ := World.cells?_some hc
      rw [hk] at hat hcl
      have hr : r < k := by rw [← hg b]; exact (List.getElem?_eq_some_iff.1 hu).1
      have := hat r hr
      rw [Go.Deep.add_add] at this
      rw [this, hb]
      exact hu
    obtain ⟨xs, hxl, hxs⟩ := list_of key
    subst hxl
    refine ⟨xs, some a, m, D, rfl, hl, hm, ?_, fun i b hb => (hxs i b hb).1, fun i hil q hq => ?_, .inr ⟨_, ?_, rfl⟩⟩
    · intro hpos
      have hx0 : 0 < xs.length := by
        rcases xs with _ | ⟨y, ys⟩
        · simp at hpos
        · simp
      obtain ⟨b0, hb0⟩ : ∃ b, xs[0]? = some b := ⟨_, List.getElem?_eq_getElem hx0⟩
      obtain ⟨u0, hu0⟩ : ∃ u, (g b0)[0]? = some u := ⟨_, List.getElem?_eq_getElem (by rw [hg]; exact hk0)⟩
      have hc0 := (hxs 0 b0 hb0).2 0 u0 hu0
      obtain ⟨b, off, spot⟩ := a
      have hspot : spot = none := by simpa [Addr.add] using World.cell?_spot hc0
      subst hspot
      have hblk := World.block_lt_of_cell? w _ hc0
      refine ⟨b, off, rfl, by simpa [Addr.add] using hblk, fun j u hu => ?_⟩
      obtain ⟨i, c, r, h1, h2, h3, h4⟩ := flatMap_at hg hu
      have := (hxs i c h1).2 r u h2
      rw [h3, ← Go.WideShapes.add_plain]
      exact this
    · have hmem : D i ∈ (List.range xs.length).map D := List.mem_map.2 ⟨i, List.mem_range.2 hil, rfl⟩
      have hall : ∀ l : List (DataW H), D i ∈ l → q ∈ DataW.weightsAll P e l := by
        intro l hl
        induction l with
        | nil => cases hl
        | cons d r ih =>
          rw [DataW.weightsAll, List.mem_append]
          rcases List.mem_cons.1 hl with rfl | hl
          · exact .inl hq
          · exact .inr (ih hl)
      rw [hx]
      simp only [DataW.weights, ht, List.mem_cons, List.mem_append]
      exact .inr (.inl (hall _ hmem))
    · rw [hx]
      simp only [DataW.weights, ht, List.mem_cons, List.length_map, List.length_range]
      left
      rw [show xs.length + (m - xs.length) = m by omega]

theorem i64_of_wf {n : Int} (h : (Lit.int .i64 n).wf = true) : I64 n := by
  simpa [Lit.wf, IntKind.min, IntKind.max, IntKind.signed, IntKind.bits, I64] using h

theorem flatMap_one {α : Type} (xs : List α) (g : α → Value) : xs.flatMap (fun a => [g a]) = xs.map g := by
  induction xs with
  | nil => rfl
  | cons a r ih => simp [ih]

/-- What a reading of numbers says. -/
theorem rd_ints {t e : TypeId} {fuel : Nat} {v : Value} {x : DataW H × List MemPlace} (ht : P.underlying t = some (.slice e)) (he : P.underlying e = some (.int .i64)) (hc : P.cellsOf e = 1) (hby : P.bytesOf e = 8)
    (h : DataW.trod enc P w 0 (fun _ => true) true fuel t [v] = some x) : ∃ xs, Ints w v xs ∧ ((∀ n ∈ x.1.weights P t, n ≤ reachBytes) → xs.length ≤ 17592186044416) := by
  obtain ⟨xs, A, c, D, rfl, h1, h2, h3, h4, _, h6⟩ := open_sl (α := Int) (Q := fun a _ => I64 a) (g := fun a => [.int .i64 a]) ht hc (by omega) (fun _ => rfl)
    (fun n cs y hy => by obtain ⟨a, rfl, _, hw⟩ := DataW.trod_int he hy; exact ⟨a, rfl, i64_of_wf hw⟩) h
  rw [flatMap_one] at h3
  refine ⟨xs, ⟨A, c, rfl, h1, h2, fun x hx => ?_, h3⟩, fun hw => ?_⟩
  · obtain ⟨i, hi, rfl⟩ := List.getElem_of_mem hx
    exact h4 i _ (List.getElem?_eq_getElem hi)
  · rcases h6 with rfl | ⟨n, hn, rfl⟩
    · rcases Nat.eq_zero_or_pos xs.length with h0 | h0
      · omega
      · obtain ⟨_, _, hA, _⟩ := h3 (by simpa using h0); cases hA
    · have := hw _ hn
      rw [hby] at this
      simp only [reachBytes] at this
      omega

theorem rd_int {t : TypeId} {fuel : Nat} {v : Value} {x : DataW H × List MemPlace} (ht : P.underlying t = some (.int .i64)) (h : DataW.trod enc P w 0 (fun _ => true) true fuel t [v] = some x) : ∃ n, v = .int .i64 n ∧ I64 n := by
  obtain ⟨n, hv, _, hw⟩ := DataW.trod_int ht h
  injection hv with hv
  exact ⟨n, hv, i64_of_wf hw⟩

theorem weights_part {t : TypeId} {fs : Array Field} {parts : List (DataW H)} {j : Nat} {f : Field} {d : DataW H} (ht : P.underlying t = some (.struct fs)) (hf : fs[j]? = some f) (hd : parts[j]? = some d)
    {M : Nat} (hw : ∀ n ∈ (DataW.agg parts).weights P t, n ≤ M) : ∀ n ∈ d.weights P f.type, n ≤ M := by
  intro n hn
  refine hw n ?_
  simp only [DataW.weights, ht]
  exact DataW.weights_mem_each (by rw [List.getElem?_map, Array.getElem?_toList, hf]; rfl) hd n hn

/-- A slice that comes in has one cell. -/
theorem v_one {b0 fuel : Nat} {t e : TypeId} {v : Value} {y : DataW H × List MemPlace} (_hv : Value.okWide P w .any b0 t v) (h : DataW.trod enc P w 0 (fun _ => true) true fuel t v.cells.toList = some y) (ht : P.underlying t = some (.slice e)) :
    DataW.trod enc P w 0 (fun _ => true) true fuel t [v] = some y := by
  obtain ⟨a, l, c, rfl⟩ := okWide_slice ht _hv
  exact h

/-- One argument's weights out of all. -/
theorem weights_arg {ts vs : List TypeId} {ds gs : List (DataW H)} (h : (DataW.weightsEach P (ts ++ vs) (ds ++ gs)).all (· ≤ reachBytes) = true) {j : Nat} {t : TypeId} {d : DataW H} (ht : ts[j]? = some t) (hd : ds[j]? = some d) :
    ∀ n ∈ d.weights P t, n ≤ reachBytes := by
  intro n hn
  have h1 : (ts ++ vs)[j]? = some t := by rw [List.getElem?_append_left (List.getElem?_eq_some_iff.1 ht).1]; exact ht
  have h2 : (ds ++ gs)[j]? = some d := by rw [List.getElem?_append_left (List.getElem?_eq_some_iff.1 hd).1]; exact hd
  simpa using List.all_eq_true.1 h n (DataW.weights_mem_each h1 h2 n hn)
/-- All that a law's arguments read as stays as it was where nothing old has turned. -/
theorem trodAll_stays {ts : List TypeId} {vs : List Value} {ds : List (DataW H)} {ps : List MemPlace} (hl : laidOutB P = true) (hr : ∀ t ∈ ts, P.readableRec t = true ∧ t < P.types.size) {W W' : World} {sp : Nat → Bool}
    (h : DataW.TrodAll enc P W 0 (fun _ => true) true ts vs ds ps) (hsame : ∀ p ∈ ps, W.sameAt W' p) (hs : ∀ p ∈ ps, sp p.block = true) : DataW.TrodAll enc P W' 0 sp true ts vs ds ps := by
  induction ts generalizing vs ds ps with
  | nil => cases vs <;> cases ds <;> simp_all [DataW.TrodAll]
  | cons t ts ih =>
    obtain ⟨v, vs', d, ds', p, q, rfl, rfl, rfl, h1, h2⟩ := trodAll_cons h
    obtain ⟨r1, r2⟩ := hr t (by simp)
    exact ⟨p, q, WideElems.Trod_stays hl r1 r2 h1 (fun x hx => hsame x (by simp [hx])) (fun x hx => hs x (by simp [hx])), ih (fun t ht => hr t (by simp [ht])) h2 (fun x hx => hsame x (by simp [hx])) (fun x hx => hs x (by simp [hx])), rfl⟩

/-- THE END OF A LAW: it has returned true, and nothing old has turned. -/
theorem law_post {f : Func} {s : ChangeSpec} {W W' : World} {args : Array Value} {ds gs : List (DataW H)} {before : List MemPlace} {tb : TypeId} (hW : DataW.Whole enc P f.params.toList s.vars false W args.toList ds gs before)
    (hvars : s.vars = []) (hres : f.resultTypes = #[tb]) (htb : P.underlying tb = some .bool) (hfn : s.fn H ds = { results := [.lit (.bool true)], args := ds })
    (hl : laidOutB P = true) (hr : ∀ t ∈ f.params.toList, P.readableRec t = true ∧ t < P.types.size) (hb : Below W.heap.size W W') :
    s.post enc P f false true false false W args (.bool true) W' := by
  have hlt : ∀ p ∈ before, p.block < W.heap.size := fun p hp => hW.lt p hp
  have hW' := hW
  obtain ⟨p, q, hA, hV, rfl, hz, hn⟩ := hW
  rw [hvars] at hV
  obtain ⟨rfl, rfl⟩ := trodVars_none hV
  simp only [List.append_nil] at *
  have hres1 : ∀ (b : Nat) (sp : Nat → Bool) (hd : Bool), DataW.TrodAll enc P W' b sp hd f.resultTypes.toList ((Value.bool true).resultList f.resultTypes.size) (s.fn H (ds ++ [])).results [] := by
    intro b sp hd
    rw [List.append_nil, hfn, hres]
    exact trodAll_cons_mk (shut_bool htb _) trodAll_mk0
  have hargs : ∀ sp : Nat → Bool, (∀ x ∈ p, sp x.block = true) → DataW.TrodAll enc P W' 0 sp true f.params.toList args.toList (s.fn H (ds ++ [])).args p := by
    intro sp hsp
    rw [List.append_nil, hfn]
    exact trodAll_stays hl hr hA (fun x hx => hb.same (hlt x hx)) hsp
  have hvs : ∀ sp : Nat → Bool, DataW.TrodVars enc P W' sp s.vars (s.fn H (ds ++ [])).vars [] := by
    intro sp
    rw [List.append_nil, hfn, hvars]
    rfl
  refine ⟨ds, [], p, [], p, [], hW', hres1 _ _ _, hargs _ (fun x hx => by simpa using hlt x hx), hvs _, World.keptBut_mono (fun x hx => ⟨hx, ?_⟩) (hb.frame (· ∈ p)), fun h => by cases h⟩
  exact Or.inr (Or.inl hx)
theorem okWide_text {b0 : Nat} {t : TypeId} {v : Value} (ht : P.underlying t = some .string) (h : Value.okWide P w .any b0 t v) : ∃ b, v = .string b := by
  simp only [Value.okWide, ht, Cell.okWide] at h
  cases v <;> simp_all [Cell.ok]
theorem rd_str {b0 : Nat} {t : TypeId} {v : Value} (ht : P.underlying t = some .string) (hv : Value.okWide P w .any b0 t v) : ∃ s : List UInt8, v = .string ⟨s.toArray⟩ := by
  obtain ⟨b, rfl⟩ := okWide_text ht hv
  exact ⟨b.data.toList, by simp⟩
end
end Go.Proofs.YtmnjmegejaejlaaDoor
