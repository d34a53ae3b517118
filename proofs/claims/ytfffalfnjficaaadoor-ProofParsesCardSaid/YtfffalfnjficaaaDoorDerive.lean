/-
  WORDS: lists of steps. WALK: proof.derive.
-/
import Derived.Test.YtfffalfnjficaaaDoorResolve
namespace Go.Proofs.YtfffalfnjficaaaDoor
open Go.RowKit

/-- A clause of literals of at most 1024 booleans, in normal form. -/
def OkCl (c : List Int) : Prop := Up c ∧ ∀ x ∈ c, x ≠ 0 ∧ -1024 ≤ x ∧ x ≤ 1024

theorem up_len {l : List Int} {a : Nat} {M : Nat} (h : Up l) (hx : ∀ x ∈ l, a < x.natAbs ∧ x.natAbs ≤ M) : l.length + a ≤ M ∨ l = [] := by
  induction l generalizing a with
  | nil => exact .inr rfl
  | cons x r ih =>
    left
    obtain ⟨h1, h2⟩ := List.pairwise_cons.1 h
    have hx0 := hx x (by simp)
    rcases ih (a := x.natAbs) h2 (fun y hy => ⟨h1 y hy, (hx y (by simp [hy])).2⟩) with h3 | h3
    · rw [List.length_cons]; omega
    · subst h3; simp; omega
theorem OkCl.len {c : List Int} (h : OkCl c) : c.length ≤ 1024 := by
  rcases up_len (a := 0) (M := 1024) h.1 (fun x hx => by have := h.2 x hx; omega) with h1 | h1
  · omega
  · subst h1; simp
theorem norm_okCl {xs c : List Int} (h : norm xs = some c) (hx : ∀ x ∈ xs, -1024 ≤ x ∧ x ≤ 1024) : OkCl c := by
  have := norm_spec xs
  rw [h] at this
  obtain ⟨h1, h2, h3⟩ := this
  exact ⟨h1, fun x hx' => ⟨badLit_zero (h3 x ((h2 x).1 hx')), hx x ((h2 x).1 hx')⟩⟩
theorem bound_abs {atoms : List Diff} {x : Int} {d : Diff} (h : bound atoms x = some d) : x ≠ 0 ∧ -(atoms.length : Int) ≤ x ∧ x ≤ atoms.length := by
  unfold bound at h
  split at h
  · have := (List.getElem?_eq_some_iff.1 h).1; omega
  · split at h
    · obtain ⟨e, he, _⟩ := Option.map_eq_some_iff.1 h
      have := (List.getElem?_eq_some_iff.1 he).1; omega
    · cases h
theorem deriv_ok {f : Form} {s : Stp} {cs : List (List Int)} {c : List Int} (hv : validF f = 0) (hcs : ∀ c ∈ cs, OkCl c) (h : deriv f s cs = some c) : OkCl c := by
  obtain ⟨v1, v2, v3, v4, v5, v6, v7, v8⟩ := validF_ok hv
  unfold deriv at h
  split at h
  · split at h
    · obtain ⟨a, ha, h2⟩ := Option.bind_eq_some_iff.1 h
      refine norm_okCl h2 fun x hx => ?_
      have := okLit_iff.1 (v8 a (List.mem_of_getElem? ha) x hx)
      omega
    · cases h
  · split at h
    · unfold cyc at h
      split at h
      · rename_i ds hds
        split at h
        · refine norm_okCl h fun y hy => ?_
          obtain ⟨x, hx, rfl⟩ := List.mem_map.1 hy
          have h2 : some (bound f.atoms x) ∈ (s.lits.map (bound f.atoms)).map some := List.mem_map.2 ⟨_, List.mem_map.2 ⟨x, hx, rfl⟩, rfl⟩
          rw [bnds_some.1 hds] at h2
          obtain ⟨y, hy, e⟩ := List.mem_map.1 h2
          injection e with e
          obtain ⟨d, _, rfl⟩ := List.mem_map.1 hy
          have := bound_abs e.symm
          omega
        · cases h
      · cases h
    · split at h
      · split at h
        · obtain ⟨a, ha, h2⟩ := Option.bind_eq_some_iff.1 h
          obtain ⟨b, hb, h3⟩ := Option.bind_eq_some_iff.1 h2
          unfold res at h3
          split at h3
          · refine norm_okCl h3 fun x hx => ?_
            rcases List.mem_append.1 hx with hx | hx
            · exact ((hcs a (List.mem_of_getElem? ha)).2 x (List.mem_filter.1 hx).1).2
            · exact ((hcs b (List.mem_of_getElem? hb)).2 x (List.mem_filter.1 hx).1).2
          · cases h3
        · cases h
      · cases h
theorem runS_ok {f : Form} (hv : validF f = 0) : ∀ (l : List Stp) (cs : List (List Int)), (∀ c ∈ cs, OkCl c) → ∀ c ∈ (runS f cs l).1, OkCl c := by
  intro l
  induction l with
  | nil => intro cs h; exact h
  | cons s r ih =>
    intro cs h
    rw [runS]
    cases hd : deriv f s cs with
    | none => exact h
    | some c =>
      refine ih _ fun x hx => ?_
      rcases List.mem_append.1 hx with hx | hx
      · exact h x hx
      · rw [List.mem_singleton] at hx; subst hx; exact deriv_ok hv h hd
theorem okC_of {f : Form} (hv : validF f = 0) : OkC f.atoms := by
  obtain ⟨v1, v2, v3, v4, v5, v6, v7, v8⟩ := validF_ok hv
  intro d hd
  obtain ⟨x, y, z⟩ := d
  obtain ⟨q1, q2, q3, q4, q5, q6, q7⟩ := okAtom_iff.1 (v7 _ hd)
  refine ⟨⟨⟨?_, ?_⟩, ⟨?_, ?_⟩, ⟨?_, ?_⟩⟩, q6, q7⟩ <;> simp only <;> omega

def Stp.cells (p : Stp × Value) : List Value := [.int .i64 p.1.kind, .int .i64 p.1.index, p.2, .int .i64 p.1.p, .int .i64 p.1.q, .int .i64 p.1.var]
def Stp.val (s : Stp) (lv : Value) : Value := .agg #[.int .i64 s.kind, .int .i64 s.index, lv, .int .i64 s.p, .int .i64 s.q, .int .i64 s.var]
def Stp.ok (s : Stp) : Prop := I64 s.kind ∧ I64 s.index ∧ I64 s.p ∧ I64 s.q ∧ I64 s.var
/-- The value v is a slice of steps. -/
def Stps (w : World) (v : Value) (l : List Stp) : Prop :=
  ∃ (A : Option Addr) (c : Nat) (ps : List (Stp × Value)), l = ps.map (·.1) ∧ v = .slice A ps.length c ∧ ps.length ≤ c ∧ c ≤ maxLen ∧ Rd w A (ps.flatMap Stp.cells) ∧ ∀ p ∈ ps, Ints w p.2 p.1.lits ∧ p.1.ok
theorem Stps.keep {w w' : World} {v : Value} {l : List Stp} (h : Stps w v l) (hb : Below w.heap.size w w') : Stps w' v l := by
  obtain ⟨A, c, ps, h1, h2, h3, h4, h5, h6⟩ := h
  exact ⟨A, c, ps, h1, h2, h3, h4, h5.keep hb, fun p hp => ⟨(h6 p hp).1.keep hb, (h6 p hp).2⟩⟩
theorem flat_get {α β : Type} {xs : List α} {g : α → List β} {m : Nat} (hg : ∀ a, (g a).length = m) {k r : Nat} {a : α} (h : xs[k]? = some a) (hr : r < m) : (xs.flatMap g)[k * m + r]? = (g a)[r]? := by
  induction xs generalizing k with
  | nil => simp at h
  | cons x t ih =>
    cases k with
    | zero => simp at h; subst h; rw [List.flatMap_cons, Nat.zero_mul, Nat.zero_add, List.getElem?_append_left (by rw [hg]; exact hr)]
    | succ k =>
      rw [List.flatMap_cons, List.getElem?_append_right (by rw [hg, Nat.succ_mul]; omega), hg, show (k + 1) * m + r - m = k * m + r by rw [Nat.succ_mul]; omega]
      exact ih (by simpa using h)
/-- A step of a slice, by its cells. -/
theorem Stps.at_ {w : World} {A : Option Addr} {ps : List (Stp × Value)} (h : Rd w A (ps.flatMap Stp.cells)) {k : Nat} {p : Stp × Value} (hk : ps[k]? = some p) :
    ∃ b off, A = some ⟨b, off, none⟩ ∧ b < w.heap.size ∧ w.cell? ⟨b, off + k * 6, none⟩ = some (.int .i64 p.1.kind) ∧ w.cell? ⟨b, off + k * 6 + 1, none⟩ = some (.int .i64 p.1.index) ∧ w.cell? ⟨b, off + k * 6 + 2, none⟩ = some p.2 ∧
      w.cell? ⟨b, off + k * 6 + 3, none⟩ = some (.int .i64 p.1.p) ∧ w.cell? ⟨b, off + k * 6 + 4, none⟩ = some (.int .i64 p.1.q) ∧ w.cell? ⟨b, off + k * 6 + 5, none⟩ = some (.int .i64 p.1.var) := by
  have hg : ∀ r, r < 6 → (ps.flatMap Stp.cells)[k * 6 + r]? = (Stp.cells p)[r]? := fun r hr => flat_get (g := Stp.cells) (m := 6) (fun _ => rfl) hk hr
  obtain ⟨b, off, hA, hlt, hc⟩ := h (by have := (List.getElem?_eq_some_iff.1 ((hg 0 (by omega)).trans (show (Stp.cells p)[0]? = some _ from rfl))).1; omega)
  have hx : ∀ r u, r < 6 → (Stp.cells p)[r]? = some u → w.cell? ⟨b, off + k * 6 + r, none⟩ = some u := fun r u hr hu => by
    rw [Nat.add_assoc]; exact hc _ _ ((hg r hr).trans hu)
  exact ⟨b, off, hA, hlt, hx 0 _ (by omega) rfl, hx 1 _ (by omega) rfl, hx 2 _ (by omega) rfl, hx 3 _ (by omega) rfl, hx 4 _ (by omega) rfl, hx 5 _ (by omega) rfl⟩

theorem ClRet.up {w W w' : World} {r r' : Option (List Int)} {e : Ending} (h : ClRet W r' e w') (hr : r = r') (hb : Below w.heap.size w W) : ClRet w r e w' := by
  obtain ⟨v, he, ⟨h1, h2⟩, h3⟩ := h
  subst hr
  exact ⟨v, he, ⟨owns_base h1 hb.size, h2⟩, hb.trans (h3.mono hb.size)⟩

set_option maxRecDepth 100000 in
set_option maxHeartbeats 1000000 in
theorem pderive_any (fv sv ev : Value) (f : Form) (s : Stp) (cs : List (List Int)) (w : World) (hf : IsForm w fv f) (hs : IsStp w sv s) (he : Mat w ev cs) (hv : validF f = 0) (hcl : ∀ c ∈ f.clauses, c.length ≤ 200000) (hcs : ∀ c ∈ cs, OkCl c) (hll : s.lits.length ≤ 1000000) :
    Calls Tryd.prog 50 #[fv, sv, ev] w (ClRet w (deriv f s cs)) := by
  have HS := Lib.hid hs
  have HE := Lib.hid he
  have HV := Lib.hid hv
  have HCL := Lib.hid hcl
  have HCS := Lib.hid hcs
  have HOK := Lib.hid (okC_of hv)
  have HF := Lib.hid hf
  obtain ⟨av, cv, rfl, hf1, hf2, hf3, hf4⟩ := hf
  obtain ⟨lv, rfl, hs1, hs2, hs3, hs4, hs5, hs6⟩ := hs
  have HA := Lib.hid hf3
  have HM := Lib.hid hf4
  have HLV := Lib.hid hs1
  obtain ⟨Ac, cc, vs, rfl, m1, m2, m3, m4, m5⟩ := hf4
  obtain ⟨Al, cl, rfl, -, -, -, -⟩ := hs1
  unfold maxLen at m2
  have HM3 := Lib.hid m3
  have HM4 := Lib.hid m4
  have HM5 := Lib.hid m5
  have hal : (f.atoms.length : Int) ≤ 1024 := by have := validF_ok hv; omega
  clear he hv hcl hcs hf3 m3 m4 m5 hf1 hf2 hs2 hs3 hs4 hs5 hs6
  have B0 := (Blk.new w 26 #[.int .i64 f.ints, .int .i64 f.bools, av, .slice Ac f.clauses.length cc]).alloc (.cells #[.int .i64 s.kind, .int .i64 s.index, .slice Al s.lits.length cl, .int .i64 s.p, .int .i64 s.q, .int .i64 s.var] 81)
  have B1 := Blk.new (w.alloc (.cells #[.int .i64 f.ints, .int .i64 f.bools, av, .slice Ac f.clauses.length cc] 26)) 81 #[.int .i64 s.kind, .int .i64 s.index, .slice Al s.lits.length cl, .int .i64 s.p, .int .i64 s.q, .int .i64 s.var]
  have hbW : Below w.heap.size w ((w.alloc (.cells #[.int .i64 f.ints, .int .i64 f.bools, av, .slice Ac f.clauses.length cc] 26)).alloc (.cells #[.int .i64 s.kind, .int .i64 s.index, .slice Al s.lits.length cl, .int .i64 s.p, .int .i64 s.q, .int .i64 s.var] 81)) := by go_grown
  simp only [World.size_alloc] at B1
  have q0 := B0.cell 0
  have q1 := B0.cell 1
  have q2 := B0.cell 2
  have q3 := B0.cell 3
  have r0 := B1.cell 0
  have r1 := B1.cell 1
  have r2 := B1.cell 2
  have r3 := B1.cell 3
  have r4 := B1.cell 4
  have r5 := B1.cell 5
  simp only [List.getElem?_toArray, List.getElem?_cons_zero, List.getElem?_cons_succ] at q0 q1 q2 q3 r0 r1 r2 r3 r4 r5
  have HBW := Lib.hid hbW
  clear B0 B1 hbW
  by_cases k1 : s.kind = 1
  · have e1 : (s.kind == 1) = true := by simp [k1]
    by_cases i0 : s.index < 0
    · have d1 : decide (s.index < 0) = true := by simpa using i0
      have HN : Hid (deriv f s cs = none) := by refine Lib.hid ?_; unfold deriv; rw [if_pos k1, if_neg (by omega)]
      clear k1 i0
      go_enter Tryd.func50, Tryd.ntmps50
      go_wp2_with fail
      go_ret2
      exact ClRet.no HN.out HBW.out
    have d1 : decide (s.index < 0) = false := by simpa using i0
    by_cases i1 : (f.clauses.length : Int) ≤ s.index
    · have d2 : decide ((f.clauses.length : Int) ≤ s.index) = true := by simpa using i1
      have HN : Hid (deriv f s cs = none) := by refine Lib.hid ?_; unfold deriv; rw [if_pos k1, if_pos (by omega), List.getElem?_eq_none (by omega)]; rfl
      clear k1 i0 i1
      go_enter Tryd.func50, Tryd.ntmps50
      go_wp2_with fail
      go_ret2
      exact ClRet.no HN.out HBW.out
    have d2 : decide ((f.clauses.length : Int) ≤ s.index) = false := by simpa using i1
    obtain ⟨n, hn⟩ : ∃ n : Nat, s.index = n := ⟨s.index.toNat, by omega⟩
    have hnl : n < f.clauses.length := by omega
    obtain ⟨c, hc⟩ : ∃ c, f.clauses[n]? = some c := ⟨_, List.getElem?_eq_getElem hnl⟩
    obtain ⟨b, off, A1, c1, rfl, hb, hcell, hI⟩ := Mat.at_ (HM4.out.keep HBW.out) HM3.out (fun k u xs a b => (HM5.out k u xs a b).keep HBW.out) hc
    have HN : Hid (deriv f s cs = norm c) := by refine Lib.hid ?_; unfold deriv; rw [if_pos k1, if_pos (by omega), hn, Int.toNat_natCast, hc]; rfl
    have HI := Lib.hid hI
    have HLE := Lib.hid (HCL.out c (List.mem_of_getElem? hc))
    rw [hn] at r1 d1 d2 HBW HI hcell ⊢
    clear k1 i0 i1 hn hc hI
    go_enter Tryd.func50, Tryd.ntmps50
    go_wp2_with fail
    refine ((fnormal_any _ c _ HI.out (by have := HLE.out; omega)).mono fun e w3 h => NormRet.cl (w := w) h HN.out HBW.out).mono ?_
    intro e w3 hcl
    obtain ⟨v, rfl, h5, h6⟩ := hcl
    have H5 := Lib.hid h5
    have H6 := Lib.hid h6
    clear h5 h6
    go_wp2_with fail
    go_ret2
    exact ⟨v, rfl, H5.out, H6.out⟩
  have e1 : (s.kind == 1) = false := by simp [k1]
  by_cases k2 : s.kind = 2
  · have e2 : (s.kind == 2) = true := by simp [k2]
    have HN : Hid (deriv f s cs = cyc f.atoms s.lits) := by refine Lib.hid ?_; unfold deriv; rw [if_neg k1, if_pos k2]
    clear k1 k2
    go_enter Tryd.func50, Tryd.ntmps50
    go_wp2_with fail
    refine ((pcycle_any _ _ _ _ _ f.atoms s.lits _ (HA.out.keep HBW.out) (HLV.out.keep HBW.out) HOK.out hll (by omega)).mono fun e w3 h => ClRet.up (w := w) h HN.out HBW.out).mono ?_
    intro e w3 hcl
    obtain ⟨v, rfl, h5, h6⟩ := hcl
    have H5 := Lib.hid h5
    have H6 := Lib.hid h6
    clear h5 h6
    go_wp2_with fail
    go_ret2
    exact ⟨v, rfl, H5.out, H6.out⟩
  have e2 : (s.kind == 2) = false := by simp [k2]
  by_cases k3 : s.kind = 3
  · have e3 : (s.kind == 3) = true := by simp [k3]
    have HN : Hid (deriv f s cs = resE cs s) := by refine Lib.hid ?_; unfold deriv; rw [if_neg k1, if_neg k2, if_pos k3]; rfl
    clear k1 k2 k3
    go_enter Tryd.func50, Tryd.ntmps50
    go_wp2_with fail
    refine ((presolve_any _ _ s cs _ (HS.out.keep HBW.out) (HE.out.keep HBW.out) (fun c hc => (HCS.out c hc).1) (fun c hc => by have := (HCS.out c hc).len; omega)).mono fun e w3 h => ClRet.up (w := w) h HN.out HBW.out).mono ?_
    intro e w3 hcl
    obtain ⟨v, rfl, h5, h6⟩ := hcl
    have H5 := Lib.hid h5
    have H6 := Lib.hid h6
    clear h5 h6
    go_wp2_with fail
    go_ret2
    exact ⟨v, rfl, H5.out, H6.out⟩
  have e3 : (s.kind == 3) = false := by simp [k3]
  have HN : Hid (deriv f s cs = none) := by refine Lib.hid ?_; unfold deriv; rw [if_neg k1, if_neg k2, if_neg k3]
  clear k1 k2 k3
  go_enter Tryd.func50, Tryd.ntmps50
  go_wp2_with fail
  go_ret2
  exact ClRet.no HN.out HBW.out
end Go.Proofs.YtfffalfnjficaaaDoor
