/-
  WALK: proof.Core and interleaveref31.Core.
-/
import Derived.Test.YtdmndikenejhiaaTrimR
import Derived.Test.YtdmndikenejhiaaNormal
namespace Go.Proofs.Ytdmndikenejhiaa
open Go.RowKit

/-- In order, each once, the clauses of the formula that the trimmed steps name. -/
def IsCore (l : List Stp) (c : List Int) : Prop := c.Pairwise (· < ·) ∧ ∀ x, x ∈ c ↔ ∃ s ∈ trim l, s.kind = 1 ∧ s.index = x
theorem strict_ext {a b : List Int} (ha : a.Pairwise (· < ·)) (hb : b.Pairwise (· < ·)) (h : ∀ x, x ∈ a ↔ x ∈ b) : a = b := by
  induction a generalizing b with
  | nil =>
    cases b with
    | nil => rfl
    | cons y s => have := (h y).2 (by simp); simp at this
  | cons x r ih =>
    cases b with
    | nil => have := (h x).1 (by simp); simp at this
    | cons y s =>
      obtain ⟨a1, a2⟩ := List.pairwise_cons.1 ha
      obtain ⟨b1, b2⟩ := List.pairwise_cons.1 hb
      have hxy : x = y := by
        have h1 : x ∈ y :: s := (h x).1 (by simp)
        have h2 : y ∈ x :: r := (h y).2 (by simp)
        rcases List.mem_cons.1 h1 with e | e
        · exact e
        · rcases List.mem_cons.1 h2 with e2 | e2
          · exact e2.symm
          · have := b1 x e; have := a1 y e2; omega
      subst hxy
      refine congrArg _ (ih a2 b2 fun z => ?_)
      constructor
      · intro hz
        rcases List.mem_cons.1 ((h z).1 (by simp [hz])) with e | e
        · have := a1 z hz; omega
        · exact e
      · intro hz
        rcases List.mem_cons.1 ((h z).2 (by simp [hz])) with e | e
        · have := b1 z hz; omega
        · exact e
theorem IsCore.eq {l : List Stp} {a b : List Int} (ha : IsCore l a) (hb : IsCore l b) : a = b := strict_ext ha.1 hb.1 fun x => (ha.2 x).trans (hb.2 x).symm

def idxs (ts : List Stp) : List Int := (ts.filter fun s => decide (s.kind = 1)).map Stp.index
theorem idxs_mem {ts : List Stp} {x : Int} : x ∈ idxs ts ↔ ∃ s ∈ ts, s.kind = 1 ∧ s.index = x := by
  unfold idxs
  rw [List.mem_map]
  constructor
  · rintro ⟨s, h1, h2⟩
    obtain ⟨h3, h4⟩ := List.mem_filter.1 h1
    exact ⟨s, h3, by simpa using h4, h2⟩
  · rintro ⟨s, h1, h2, h3⟩
    exact ⟨s, List.mem_filter.2 ⟨h1, by simpa using h2⟩, h3⟩
theorem idxs_yes {ts : List Stp} {k : Nat} {s : Stp} (h : ts[k]? = some s) (hs : s.kind = 1) : idxs (ts.take (k + 1)) = idxs (ts.take k) ++ [s.index] := by
  unfold idxs
  rw [take_succ_of h, List.filter_append, List.map_append]
  simp [hs]
theorem idxs_no {ts : List Stp} {k : Nat} {s : Stp} (h : ts[k]? = some s) (hs : ¬ s.kind = 1) : idxs (ts.take (k + 1)) = idxs (ts.take k) := by
  unfold idxs
  rw [take_succ_of h, List.filter_append, List.map_append]
  simp [hs]
theorem idxs_len (ts : List Stp) : (idxs ts).length ≤ ts.length := by unfold idxs; rw [List.length_map]; exact List.length_filter_le _ _
/-- Trimmed inputs name clauses. -/
theorem trim_index {f : Form} {l : List Stp} (h : Refutes f l) {s : Stp} (hs : s ∈ trim l) (hk : s.kind = 1) : 0 ≤ s.index ∧ s.index < f.clauses.length := by
  obtain ⟨⟨cs, hg, -, -⟩, -⟩ := trim_refutes h
  obtain ⟨i, hi, rfl⟩ := List.getElem_of_mem hs
  obtain ⟨c, -, h2⟩ := hg.at_ hi
  rw [List.getD_eq_getElem?_getD, List.getElem?_eq_getElem hi] at h2
  exact (deriv_kind h2).2.2 hk
theorem core_sorted {zs : List Int} (h0 : ∀ x ∈ zs, 0 ≤ x) : (Lib.compact (zs.mergeSort fun x y => decide (x ≤ y))).Pairwise (· < ·) ∧ ∀ x, x ∈ Lib.compact (zs.mergeSort fun x y => decide (x ≤ y)) ↔ x ∈ zs := by
  have hs : (zs.mergeSort fun x y => decide (x ≤ y)).Pairwise fun a b => decide (a ≤ b) = true := List.pairwise_mergeSort (fun a b c h1 h2 => by simp at *; omega) (fun a b => by simp; omega) zs
  have hm : ∀ x, x ∈ (zs.mergeSort fun x y => decide (x ≤ y)) ↔ x ∈ zs := fun x => List.mem_mergeSort
  have hl : (zs.mergeSort fun x y => decide (x ≤ y)).Pairwise litLe := by
    refine (List.pairwise_iff_forall_sublist.2 fun {a b} hab => ?_)
    have h1 : decide (a ≤ b) = true := List.pairwise_iff_forall_sublist.1 hs hab
    have ha := h0 a ((hm a).1 (hab.subset (by simp)))
    have hb := h0 b ((hm b).1 (hab.subset (by simp)))
    simp at h1
    unfold litLe
    omega
  obtain ⟨h1, h2⟩ := compact_spec _ hl
  refine ⟨?_, fun x => (h1 x).trans (hm x)⟩
  refine (List.pairwise_iff_forall_sublist.2 fun {a b} hab => ?_)
  have h3 := List.pairwise_iff_forall_sublist.1 h2 hab
  have ha := h0 a ((hm a).1 ((h1 a).1 (hab.subset (by simp))))
  have hb := h0 b ((hm b).1 ((h1 b).1 (hab.subset (by simp))))
  have h4 := h3.1
  have h5 := h3.2
  unfold litLe at h4
  omega

/-- What Core returns. -/
def CoreRet (w : World) (f : Form) (l : List Stp) (e : Ending) (w' : World) : Prop :=
  Below w.heap.size w w' ∧ ((Refutes f l ∧ ∃ v c, e = .returned (.tuple #[v, .bool true]) ∧ Ints w' v c ∧ IsCore l c) ∨ (¬ Refutes f l ∧ e = .returned (.tuple #[.slice none 0 0, .bool false])))

set_option maxRecDepth 100000 in
set_option maxHeartbeats 4000000 in
theorem core_any (fv lv : Value) (f : Form) (l : List Stp) (w : World) (hf : IsForm w fv f) (hl : Stps w lv l) (hq : Asked f l) :
    Calls Try.prog 28 #[fv, lv] w (CoreRet w f l) := by
  have HF := Lib.hid hf
  have HQ := Lib.hid hq
  have HL := Lib.hid hl
  obtain ⟨av, cv, rfl, -, -, hf3, hf4⟩ := hf
  obtain ⟨Aa, ca, rfl, -, -, -, -⟩ := hf3
  obtain ⟨Ac, cc, vs, rfl, -, -, -, -, -⟩ := hf4
  obtain ⟨A, c, ps, -, rfl, -, -, -, -⟩ := hl
  have HB0 : Hid (Below w.heap.size w (w.alloc (.cells #[.int .i64 f.ints, .int .i64 f.bools, .slice Aa f.atoms.length ca, .slice Ac f.clauses.length cc] 32))) := (Below.refl _ _).alloc (Nat.le_refl _) _
  clear hq
  go_enter Try.func28, Try.ntmps28
  go_wp2_with fail
  generalize w.alloc (.cells #[.int .i64 f.ints, .int .i64 f.bools, .slice Aa f.atoms.length ca, .slice Ac f.clauses.length cc] 32) = W at *
  refine (trim_any _ _ f l _ (HF.out.keep HB0.out) (HL.out.keep HB0.out) HQ.out).mono ?_
  rintro e w1 ⟨hb1, ⟨hrf, v1, qs, rfl, hqs, hos⟩ | ⟨hno, rfl⟩⟩
  · have HB1 := Lib.hid (HB0.out.trans (hb1.mono HB0.out.size))
    have HRF := Lib.hid hrf
    have HQS := Lib.hid hqs
    have HOS := Lib.hid hos
    have hql : qs.length ≤ 100000 := by
      have h1 := congrArg List.length hqs
      have h2 := (trim_refutes hrf).2
      have h3 := HQ.out.2.2.1
      simp at h1; omega
    obtain ⟨Ao, co, eo, ho1, ho2, hor⟩ := owns_rd hos.1
    subst eo
    unfold maxLen at ho2
    have HR := Lib.hid hor
    obtain ⟨iI, hiI, hzI0, hzI1, hzI2⟩ := info_parts info_int
    clear hb1 hrf hqs hos hor
    go_wp2_with fail
    go_loopw [8, 21] (fun o i wr => ∃ k : Nat, k ≤ qs.length ∧ i = .int .i64 k ∧ Own wr w1.heap.size o (idxs ((trim l).take k)) ∧ Below w1.heap.size w1 wr) (fun _ i _ => qs.length - (intOf i).toNat)
    case atStart => exact ⟨0, by omega, rfl, ⟨World.ownsRow_nil _ _ _ _, by simp [idxs]⟩, Below.refl _ _⟩
    case round =>
      obtain ⟨k, hk, rfl, how, hbw⟩ := hrel
      have HOW := Lib.hid how
      have HBW := Lib.hid hbw
      have hsz := hbw.size
      obtain ⟨Ax, cx, ex, -, -, -⟩ := owns_rd how.1
      subst ex
      have hil : (idxs ((trim l).take k)).length ≤ k := Nat.le_trans (idxs_len _) (List.length_take_le _ _)
      generalize hxs : idxs ((trim l).take k) = xs at *
      have HXS := Lib.hid hxs
      clear hxs how hbw
      by_cases hkl : k < qs.length
      · obtain ⟨⟨s, sv⟩, hp⟩ : ∃ p, qs[k]? = some p := ⟨_, List.getElem?_eq_getElem hkl⟩
        have HSK : Hid ((trim l)[k]? = some s) := Lib.hid (by rw [← HQS.out, List.getElem?_map, hp]; rfl)
        obtain ⟨b1, o1, rfl, hb1, t0, t1, t2, t3, t4, t5⟩ := Stps.at_ (HR.out.keep HBW.out) hp
        have HP4 := Lib.hid (HOS.out.2 (s, sv) (List.mem_of_getElem? hp))
        obtain ⟨As, cs', hsv, -, -, -, -⟩ := HP4.out.1
        simp only at t0 t1 t2 t3 t4 t5 hsv
        subst hsv
        have hb3 : Below wr.heap.size wr (wr.alloc (.cells #[.int .i64 s.kind, .int .i64 s.index, .slice As s.lits.length cs', .int .i64 s.p, .int .i64 s.q, .int .i64 s.var] 50)) := (Below.refl _ _).alloc (Nat.le_refl _) _
        have HOW3 : Hid (Own (wr.alloc (.cells #[.int .i64 s.kind, .int .i64 s.index, .slice As s.lits.length cs', .int .i64 s.p, .int .i64 s.q, .int .i64 s.var] 50)) w1.heap.size (.slice Ax xs.length cx) xs) := Lib.hid ⟨owns_keep HOW.out.1 hb3, HOW.out.2⟩
        have HBW3 := Lib.hid (HBW.out.trans (hb3.mono HBW.out.size))
        clear hp hb3
        by_cases h1 : s.kind = 1
        · have d1 : (s.kind == 1) = true := by simp [h1]
          have HE : Hid (idxs ((trim l).take (k + 1)) = xs ++ [s.index]) := Lib.hid (by rw [idxs_yes HSK.out h1, HXS.out])
          have HO : Hid (∀ u ∈ ([.int .i64 s.index] : List Value), u.oneCell' = true) := by
            refine Lib.hid ?_
            intro u hu; simp at hu; subst hu; rfl
          have H63 : Hid (xs.length + 1 ≤ maxLen) := by refine Lib.hid ?_; unfold maxLen; omega
          have HBY : Hid ((xs.length + 1) * 8 ≤ 140737488355328) := by refine Lib.hid ?_; omega
          clear h1
          go_upto_region 9 with fail
          have hs4 : w1.heap.size ≤ (wr.alloc (.cells #[.int .i64 s.kind, .int .i64 s.index, .slice As s.lits.length cs', .int .i64 s.p, .int .i64 s.q, .int .i64 s.var] 50)).heap.size := by simp; omega
          have B3 := Blk.new wr 50 #[.int .i64 s.kind, .int .i64 s.index, .slice As s.lits.length cs', .int .i64 s.p, .int .i64 s.q, .int .i64 s.var]
          generalize wr.alloc (.cells #[.int .i64 s.kind, .int .i64 s.index, .slice As s.lits.length cs', .int .i64 s.p, .int .i64 s.q, .int .i64 s.var] 50) = W4 at *
          have r1 := B3.cell 1
          simp only [List.getElem?_toArray, List.getElem?_cons_zero, List.getElem?_cons_succ] at r1
          clear B3 t0 t1 t2 t3 t4 t5
          have HBA : Hid (w1.heap.size ≤ (W4.alloc (.cells #[.int .i64 s.index] 3)).heap.size) := by refine Lib.hid ?_; simp; omega
          go_wp2_with (at_builtin; refine wpList_append_own_at _ rfl _ _ 43 rfl w1.heap.size 3 iI (.int .i64 0) 1 8 Try.underlying43 hiI hzI0 hzI1 hzI2 rfl (by decide) _ _ _ rfl (HOW3.out.1.alloc _) ⟨W4.heap.size, 0, none⟩ 1 1 [.int .i64 s.index] rfl rfl (one_at W4 _ _) HO.out H63.out HBY.out HBA.out ?_)
          intro v6 w6 hown hgrow _ hat
          have HO6 : Hid (Own w6 w1.heap.size v6 (xs ++ [s.index])) := by
            refine Lib.hid ⟨by simpa using hown, fun z hz => ?_⟩
            rcases List.mem_append.1 hz with hz | hz
            · exact HOW.out.2 z hz
            · rw [List.mem_singleton] at hz; subst hz; exact HP4.out.2.2.1
          have HB6 : Hid (Below w1.heap.size w1 w6) := (HBW3.out.alloc HBW3.out.size _).grown hgrow (by simp; omega) fun g e => (HOW3.out.1.lt g e).1
          obtain ⟨A6, c6, e6, -, -, -⟩ := owns_rd hown
          subst e6
          clear hown hgrow hat HO H63 HBY HBA r1
          go_wp2_with fail
          go_roundw
          case rel => exact ⟨k + 1, by omega, by go_num, by rw [HE.out]; exact HO6.out, HB6.out⟩
          case measure => simp [intOf]; omega
        · have d1 : (s.kind == 1) = false := by simp [h1]
          have HE : Hid (idxs ((trim l).take (k + 1)) = xs) := Lib.hid (by rw [idxs_no HSK.out h1, HXS.out])
          clear h1
          go_wp2_with fail
          go_roundw
          case rel => exact ⟨k + 1, by omega, by go_num, by rw [HE.out]; exact HOW3.out, HBW3.out⟩
          case measure => simp [intOf]; omega
      · have HXI : Hid (xs = idxs (trim l)) := Lib.hid (by
          rw [← HXS.out, List.take_of_length_le]
          have := congrArg List.length HQS.out
          simp at this; omega)
        have HX0 : Hid (∀ x ∈ xs, 0 ≤ x) := Lib.hid fun x hx => by
          rw [HXI.out] at hx
          obtain ⟨s, h1, h2, rfl⟩ := idxs_mem.1 hx
          exact (trim_index HRF.out h1 h2).1
        have HMM : Hid (∀ x, x ∈ xs ↔ ∃ s ∈ trim l, s.kind = 1 ∧ s.index = x) := Lib.hid fun x => by rw [HXI.out]; exact idxs_mem
        by_cases hx0 : xs.length = 0
        · obtain rfl : xs = [] := List.eq_nil_of_length_eq_zero hx0
          have HCO : Hid (IsCore l []) := Lib.hid ⟨List.Pairwise.nil, HMM.out⟩
          clear hx0 hil
          simp only [List.length_nil]
          go_wp2_with fail
          refine (Try.slices_Sort_int_none Ax cx _).mono ?_
          rintro e w2 ⟨rfl, rfl⟩
          go_wp2_with fail
          refine (Try.slices_Compact_int_empty Ax cx _).mono ?_
          rintro e w3 ⟨rfl, rfl⟩
          go_wp2_with fail
          go_ret2
          obtain ⟨A9, c9, e9, h91, h92, -⟩ := owns_rd HOW.out.1
          injection e9 with e1 _ e2
          subst e1 e2
          exact ⟨HB1.out.trans (HBW.out.mono HB1.out.size), .inl ⟨HRF.out, _, [], rfl, ⟨_, _, rfl, h91, h92, by simp, Rd.nil _ _⟩, HCO.out⟩⟩
        · obtain ⟨g, cap, ev, hg1, hg2, hc1, hc2⟩ := owns_pos HOW.out.1 (by omega)
          injection ev with e1 _ e2
          subst e1 e2
          unfold maxLen at hc2
          have hcon := Try.slices_Sort_int g 0 cx xs wr (holds_own HOW.out.1 xs rfl) hg2 (by omega)
          have HCON := Lib.hid hcon
          clear hcon
          go_wp2_with fail
          refine HCON.out.mono ?_
          rintro e w2 ⟨rfl, n2, os2, hw2⟩
          have hown2 : w2.ownsRow w1.heap.size 3 1 (.slice (some ⟨g, 0, none⟩) xs.length cx) xs.length ((xs.mergeSort fun x y => decide (x ≤ y)).map (Value.int .i64)) := by
            have h := owns_put (enc := Value.int .i64) (m := n2) (os := os2) HOW.out.1 (xs.mergeSort fun x y => decide (x ≤ y)) (by simp)
            rw [hw2]; exact h
          have hbw2 : Below w1.heap.size w1 w2 := by
            rw [hw2]
            refine HBW.out.grown (grownBy_put (enc := Value.int .i64) (g := g) _) HBW.out.size (fun k hk => ?_)
            injection hk with hk
            omega
          obtain ⟨h6, h7⟩ := core_sorted HX0.out
          have HI64 : Hid (∀ x ∈ xs.mergeSort fun x y => decide (x ≤ y), I64 x) := Lib.hid fun x hx => HOW.out.2 x (List.mem_mergeSort.1 hx)
          have HZL : Hid ((xs.mergeSort fun x y => decide (x ≤ y)).length = xs.length) := Lib.hid (by simp)
          have HCO : Hid (IsCore l (Lib.compact (xs.mergeSort fun x y => decide (x ≤ y)))) := Lib.hid ⟨h6, fun x => (h7 x).trans (HMM.out x)⟩
          have HC64 : Hid (∀ x ∈ Lib.compact (xs.mergeSort fun x y => decide (x ≤ y)), I64 x) := Lib.hid fun x hx => HOW.out.2 x ((h7 x).1 hx)
          have HOWN2 := Lib.hid hown2
          have HBW2 := Lib.hid hbw2
          generalize (xs.mergeSort fun x y => decide (x ≤ y)) = zs at *
          clear hw2 hown2 hbw2 h6 h7 HCON
          have hcmp := Try.slices_Compact_int g 0 cx zs w2 (holds_own HOWN2.out zs rfl) (by have := HZL.out; omega) (by have := HZL.out; omega)
          rw [HZL.out] at hcmp
          have HCMP := Lib.hid hcmp
          clear hcmp
          go_wp2_with fail
          refine HCMP.out.mono ?_
          rintro e w3 ⟨rfl, q3, hw3⟩
          have hcl : (Lib.compact zs).length ≤ xs.length := by
            rw [← HZL.out]
            have h := List.length_filter_le (Lib.keeps zs.toArray) (List.range zs.length)
            simpa [Lib.compact, Lib.compactUpTo] using h
          have hown3 : w3.ownsRow w1.heap.size 3 1 (.slice (some ⟨g, 0, none⟩) (Lib.compact zs).length cx) (Lib.compact zs).length ((Lib.compact zs).map (Value.int .i64)) := by
            have h := owns_put (enc := Value.int .i64) (m := q3) (os := #[]) HOWN2.out (Lib.compact zs ++ List.replicate (xs.length - (Lib.compact zs).length) 0) (by simp; omega)
            rw [Sort.grow_empty] at h
            have h2 := owns_cut h hcl
            rw [List.map_append, List.take_append_of_le_length (by simp), List.take_of_length_le (by simp)] at h2
            rw [hw3]
            exact h2
          have hbw3 : Below w1.heap.size w1 w3 := by
            rw [hw3]
            have h := grownBy_put (w := w2) (enc := Value.int .i64) (g := g) (m := q3) (os := #[]) (Lib.compact zs ++ List.replicate (xs.length - (Lib.compact zs).length) 0).toArray
            rw [Sort.grow_empty] at h
            refine HBW2.out.grown h HBW2.out.size (fun k hk => ?_)
            injection hk with hk
            omega
          have HOWN3 := Lib.hid hown3
          have HBW3 := Lib.hid hbw3
          generalize Lib.compact zs = t at *
          clear hw3 hown3 hbw3 hcl HCMP HOWN2 HBW2
          go_wp2_with fail
          go_ret2
          exact ⟨HB1.out.trans (HBW3.out.mono HB1.out.size), .inl ⟨HRF.out, _, t, rfl, Own.ints (base := w1.heap.size) ⟨HOWN3.out, HC64.out⟩, HCO.out⟩⟩
  · have HB1 := Lib.hid (HB0.out.trans (hb1.mono HB0.out.size))
    have HNO := Lib.hid hno
    clear hb1 hno
    go_wp2_with fail
    go_ret2
    exact ⟨HB1.out, .inr ⟨HNO.out, rfl⟩⟩

/-- The clauses below k that the steps ts name. -/
def namedB (ts : List Stp) (i : Nat) : Bool := ts.any fun s => decide (s.kind = 1 ∧ s.index = (i : Int))
def coreTo (ts : List Stp) (k : Nat) : List Int := ((List.range k).filter (namedB ts)).map fun i : Nat => (i : Int)
theorem coreTo_yes {ts : List Stp} {k : Nat} (h : namedB ts k = true) : coreTo ts (k + 1) = coreTo ts k ++ [(k : Int)] := by
  unfold coreTo; rw [List.range_succ, List.filter_append, List.map_append]; simp [h]
theorem coreTo_no {ts : List Stp} {k : Nat} (h : namedB ts k = false) : coreTo ts (k + 1) = coreTo ts k := by
  unfold coreTo; rw [List.range_succ, List.filter_append, List.map_append]; simp [h]
theorem coreTo_len (ts : List Stp) (k : Nat) : (coreTo ts k).length ≤ k := by
  unfold coreTo; rw [List.length_map]; exact Nat.le_trans (List.length_filter_le _ _) (by simp)
theorem coreTo_core {f : Form} {l : List Stp} (h : Refutes f l) : IsCore l (coreTo (trim l) f.clauses.length) := by
  constructor
  · unfold coreTo
    rw [List.pairwise_map]
    refine List.Pairwise.filter _ ?_
    exact List.pairwise_lt_range.imp fun h => by omega
  · intro x
    unfold coreTo namedB
    rw [List.mem_map]
    constructor
    · rintro ⟨i, hi, rfl⟩
      obtain ⟨h1, h2⟩ := List.mem_filter.1 hi
      rw [List.any_eq_true] at h2
      obtain ⟨s, h3, h4⟩ := h2
      exact ⟨s, h3, by simpa using h4⟩
    · rintro ⟨s, h1, h2, rfl⟩
      obtain ⟨h3, h4⟩ := trim_index h h1 h2
      refine ⟨s.index.toNat, List.mem_filter.2 ⟨List.mem_range.2 (by omega), ?_⟩, by omega⟩
      rw [List.any_eq_true]
      exact ⟨s, h1, by simp [h2]; omega⟩

set_option maxRecDepth 100000 in
set_option maxHeartbeats 4000000 in
theorem rcore_any (fv lv : Value) (f : Form) (l : List Stp) (w : World) (hf : IsForm w fv f) (hl : Stps w lv l) (hq : Asked f l) :
    Calls Try.prog 29 #[fv, lv] w (CoreRet w f l) := by
  have HF := Lib.hid hf
  have HQ := Lib.hid hq
  have HL := Lib.hid hl
  obtain ⟨av, cv, rfl, -, -, hf3, hf4⟩ := hf
  obtain ⟨Aa, ca, rfl, -, -, -, -⟩ := hf3
  obtain ⟨Ac, cc, vs, rfl, -, hcc, -, -, -⟩ := hf4
  obtain ⟨A, c, ps, -, rfl, -, -, -, -⟩ := hl
  have hcl : f.clauses.length ≤ 32768 := by obtain ⟨v1, v2, v3, v4, v5, v6, -, -⟩ := validF_ok hq.1; exact v6
  have HB0 : Hid (Below w.heap.size w (w.alloc (.cells #[.int .i64 f.ints, .int .i64 f.bools, .slice Aa f.atoms.length ca, .slice Ac f.clauses.length cc] 32))) := (Below.refl _ _).alloc (Nat.le_refl _) _
  have HK0 := Lib.hid (Blk.new w 32 #[.int .i64 f.ints, .int .i64 f.bools, .slice Aa f.atoms.length ca, .slice Ac f.clauses.length cc])
  clear hq hcc
  go_enter Try.func29, Try.ntmps29
  go_wp2_with fail
  generalize w.alloc (.cells #[.int .i64 f.ints, .int .i64 f.bools, .slice Aa f.atoms.length ca, .slice Ac f.clauses.length cc] 32) = W at *
  refine (rtrim_any _ _ f l _ (HF.out.keep HB0.out) (HL.out.keep HB0.out) HQ.out).mono ?_
  rintro e w1 ⟨hb1, ⟨hrf, v1, qs, rfl, hqs, hos⟩ | ⟨hno, rfl⟩⟩
  · have HB1 := Lib.hid (HB0.out.trans (hb1.mono HB0.out.size))
    have HK1 := Lib.hid (HK0.out.keep hb1)
    have HRF := Lib.hid hrf
    have HQS := Lib.hid hqs
    have HOS := Lib.hid hos
    have hql : qs.length ≤ 100000 := by
      have h1 := congrArg List.length hqs
      have h2 := (trim_refutes hrf).2
      have h3 := HQ.out.2.2.1
      simp at h1; omega
    obtain ⟨Ao, co, eo, ho1, ho2, hor⟩ := owns_rd hos.1
    subst eo
    unfold maxLen at ho2
    have HR := Lib.hid hor
    obtain ⟨iI, hiI, hzI0, hzI1, hzI2⟩ := info_parts info_int
    have q3 := HK1.out.cell 3
    simp only [List.getElem?_toArray, List.getElem?_cons_zero, List.getElem?_cons_succ] at q3
    clear hb1 hrf hqs hos hor
    go_wp2_with fail
    clear q3
    go_loopw [8, 23] (fun o i wr => ∃ k : Nat, k ≤ f.clauses.length ∧ i = .int .i64 k ∧ Own wr w1.heap.size o (coreTo (trim l) k) ∧ Below w1.heap.size w1 wr) (fun _ i _ => f.clauses.length - (intOf i).toNat)
    case atStart => exact ⟨0, by omega, rfl, ⟨World.ownsRow_nil _ _ _ _, by simp [coreTo]⟩, Below.refl _ _⟩
    case round =>
      obtain ⟨k, hk, rfl, how, hbw⟩ := hrel
      have HOW := Lib.hid how
      have HBW := Lib.hid hbw
      have hsz := hbw.size
      obtain ⟨Ax, cx, ex, -, -, -⟩ := owns_rd how.1
      subst ex
      have hil := coreTo_len (trim l) k
      generalize hxs : coreTo (trim l) k = xs at *
      have HXS := Lib.hid hxs
      clear hxs how hbw
      by_cases hkl : k < f.clauses.length
      · obtain ⟨wo, hwo⟩ : ∃ wo : World, wo = wr := ⟨_, rfl⟩
        subst hwo
        go_wp2_with fail
        go_loopw [8, 28] (fun o i wr => ∃ j : Nat, j ≤ qs.length ∧ o = .slice Ax xs.length cx ∧ i = .int .i64 j ∧ (∀ s ∈ (trim l).take j, ¬ (s.kind = 1 ∧ s.index = (k : Int))) ∧ Below wo.heap.size wo wr) (fun _ i _ => qs.length - (intOf i).toNat)
        case atStart => exact ⟨0, by omega, rfl, rfl, by simp, Below.refl _ _⟩
        case round =>
          obtain ⟨j, hj, rfl, rfl, hnn, hb2⟩ := hrel
          have HNN := Lib.hid hnn
          have HB2 := Lib.hid hb2
          have hs2 := hb2.size
          clear hnn hb2
          by_cases hjl : j < qs.length
          · obtain ⟨⟨s, sv⟩, hp⟩ : ∃ p, qs[j]? = some p := ⟨_, List.getElem?_eq_getElem hjl⟩
            have HSK : Hid ((trim l)[j]? = some s) := Lib.hid (by rw [← HQS.out, List.getElem?_map, hp]; rfl)
            obtain ⟨b1, o1, rfl, hb1, t0, t1, t2, t3, t4, t5⟩ := Stps.at_ ((HR.out.keep HBW.out).keep HB2.out) hp
            have HP4 := Lib.hid (HOS.out.2 (s, sv) (List.mem_of_getElem? hp))
            obtain ⟨As, cs', hsv, -, -, -, -⟩ := HP4.out.1
            simp only at t0 t1 t2 t3 t4 t5 hsv
            subst hsv
            have hb3 : Below wr.heap.size wr (wr.alloc (.cells #[.int .i64 s.kind, .int .i64 s.index, .slice As s.lits.length cs', .int .i64 s.p, .int .i64 s.q, .int .i64 s.var] 50)) := (Below.refl _ _).alloc (Nat.le_refl _) _
            have HB3 := Lib.hid (HB2.out.trans (hb3.mono HB2.out.size))
            clear hp hb3
            have next : ¬ (s.kind = 1 ∧ s.index = (k : Int)) → Hid (∀ s ∈ (trim l).take (j + 1), ¬ (s.kind = 1 ∧ s.index = (k : Int))) := fun hn => Lib.hid fun x hx => by
              rw [take_succ_of HSK.out] at hx
              rcases List.mem_append.1 hx with hx | hx
              · exact HNN.out x hx
              · simp at hx; subst hx; exact hn
            by_cases h1 : s.kind = 1
            · have d1 : (s.kind == 1) = true := by simp [h1]
              by_cases h2 : s.index = (k : Int)
              · have d2 : (s.index == (k : Int)) = true := by simp [h2]
                have HE : Hid (coreTo (trim l) (k + 1) = xs ++ [(k : Int)]) := Lib.hid (by
                  rw [coreTo_yes, HXS.out]
                  unfold namedB
                  rw [List.any_eq_true]
                  exact ⟨s, List.mem_of_getElem? HSK.out, by simp [h1, h2]⟩)
                have HO : Hid (∀ u ∈ ([.int .i64 (k : Int)] : List Value), u.oneCell' = true) := by
                  refine Lib.hid ?_
                  intro u hu; simp at hu; subst hu; rfl
                have H63 : Hid (xs.length + 1 ≤ maxLen) := by refine Lib.hid ?_; unfold maxLen; omega
                have HBY : Hid ((xs.length + 1) * 8 ≤ 140737488355328) := by refine Lib.hid ?_; omega
                have HOW4 : Hid (Own (wr.alloc (.cells #[.int .i64 s.kind, .int .i64 s.index, .slice As s.lits.length cs', .int .i64 s.p, .int .i64 s.q, .int .i64 s.var] 50)) w1.heap.size (.slice Ax xs.length cx) xs) := Lib.hid ⟨owns_keep HOW.out.1 HB3.out, HOW.out.2⟩
                have HBW4 := Lib.hid (HBW.out.trans (HB3.out.mono HBW.out.size))
                clear h1 h2 next
                go_upto_region 12 with fail
                generalize wr.alloc (.cells #[.int .i64 s.kind, .int .i64 s.index, .slice As s.lits.length cs', .int .i64 s.p, .int .i64 s.q, .int .i64 s.var] 50) = W4 at *
                have hs4 := HBW4.out.size
                have HBA : Hid (w1.heap.size ≤ (W4.alloc (.cells #[.int .i64 (k : Int)] 3)).heap.size) := by refine Lib.hid ?_; simp; omega
                clear t0 t1 t2 t3 t4 t5
                go_wp2_with (at_builtin; refine wpList_append_own_at _ rfl _ _ 43 rfl w1.heap.size 3 iI (.int .i64 0) 1 8 Try.underlying43 hiI hzI0 hzI1 hzI2 rfl (by decide) _ _ _ rfl (HOW4.out.1.alloc _) ⟨W4.heap.size, 0, none⟩ 1 1 [.int .i64 (k : Int)] rfl rfl (one_at W4 _ _) HO.out H63.out HBY.out HBA.out ?_)
                intro v6 w6 hown hgrow _ hat
                have HO6 : Hid (Own w6 w1.heap.size v6 (xs ++ [(k : Int)])) := by
                  refine Lib.hid ⟨by simpa using hown, fun z hz => ?_⟩
                  rcases List.mem_append.1 hz with hz | hz
                  · exact HOW.out.2 z hz
                  · rw [List.mem_singleton] at hz; subst hz; constructor <;> omega
                have HB6 : Hid (Below w1.heap.size w1 w6) := (HBW4.out.alloc HBW4.out.size _).grown hgrow (by simp; omega) fun g e => (HOW4.out.1.lt g e).1
                obtain ⟨A6, c6, e6, -, -, -⟩ := owns_rd hown
                subst e6
                clear hown hgrow hat HO H63 HBY HBA
                go_wp2_with fail
                exact ⟨⟨k + 1, by omega, by go_num, by rw [HE.out]; exact HO6.out, HB6.out⟩, by simp [intOf]; omega⟩
              · have d2 : (s.index == (k : Int)) = false := by simp [h2]
                have HN2 := next fun h => h2 h.2
                clear h1 h2 next
                go_wp2_with fail
                go_roundw
                case rel => exact ⟨j + 1, by omega, rfl, by go_num, HN2.out, HB3.out⟩
                case measure => simp [intOf]; omega
            · have d1 : (s.kind == 1) = false := by simp [h1]
              have HN2 := next fun h => h1 h.1
              clear h1 next
              go_wp2_with fail
              go_roundw
              case rel => exact ⟨j + 1, by omega, rfl, by go_num, HN2.out, HB3.out⟩
              case measure => simp [intOf]; omega
          · have HE : Hid (coreTo (trim l) (k + 1) = xs) := Lib.hid (by
              rw [coreTo_no, HXS.out]
              unfold namedB
              rw [List.any_eq_false]
              intro s hs
              have h := HNN.out s (by rw [List.take_of_length_le]; exact hs; have := congrArg List.length HQS.out; simp at this; omega)
              simpa using h)
            have HOW4 : Hid (Own wr w1.heap.size (.slice Ax xs.length cx) xs) := Lib.hid ⟨owns_keep HOW.out.1 HB2.out, HOW.out.2⟩
            have HBW4 := Lib.hid (HBW.out.trans (HB2.out.mono HBW.out.size))
            go_wp2_with fail
            exact ⟨⟨k + 1, by omega, by go_num, by rw [HE.out]; exact HOW4.out, HBW4.out⟩, by simp [intOf]; omega⟩
      · have HCO : Hid (IsCore l xs) := Lib.hid (by rw [← HXS.out, show k = f.clauses.length by omega]; exact coreTo_core HRF.out)
        go_wp2_with fail
        go_ret2
        exact ⟨HB1.out.trans (HBW.out.mono HB1.out.size), .inl ⟨HRF.out, _, xs, rfl, HOW.out.ints, HCO.out⟩⟩
  · have HB1 := Lib.hid (HB0.out.trans (hb1.mono HB0.out.size))
    have HNO := Lib.hid hno
    clear hb1 hno
    go_wp2_with fail
    go_ret2
    exact ⟨HB1.out, .inr ⟨HNO.out, rfl⟩⟩
end Go.Proofs.Ytdmndikenejhiaa
