/-
  WALKS: proof.Clauses and proof.Check.
-/
import Derived.Test.YtfffalfnjficaaaDoorDerive
namespace Go.Proofs.YtfffalfnjficaaaDoor
open Go.RowKit

/-- What Clauses leaves. -/
def ClsOk (w : World) (cs : List (List Int)) (v : Value) (w' : World) : Prop := ∃ us, OwnMat w' w.heap.size (fun b => w.heap.size ≤ b) v us cs ∧ Below w.heap.size w w'
def ClsRet (w : World) (r : List (List Int) × Bool) (e : Ending) (w' : World) : Prop :=
  (r.2 = true ∧ ∃ v, e = .returned (.tuple #[v, .int .i64 0, .int .i64 0]) ∧ ClsOk w r.1 v w') ∨ (r.2 = false ∧ e = .returned (.tuple #[.slice none 0 0, .int .i64 (r.1.length : Int), .int .i64 15]) ∧ Below w.heap.size w w')

/-- What is asked of a formula and of steps. -/
def Asked (f : Form) (l : List Stp) : Prop := validF f = 0 ∧ (∀ c ∈ f.clauses, c.length ≤ 200000) ∧ l.length ≤ 100000 ∧ ∀ s ∈ l, s.lits.length ≤ 1000000

/-- Clauses under way. -/
structure CL (w wr : World) (fv : Array Value) (v : Value) (us : List Value) (cs : List (List Int)) : Prop where
  b0 : Blk wr w.heap.size 26 fv
  om : OwnMat wr (w.heap.size + 1) (fun b => w.heap.size + 1 ≤ b) v us cs
  ok : ∀ c ∈ cs, OkCl c
  hi : w.heap.size + 1 ≤ wr.heap.size
  bl : Below w.heap.size w wr
section
variable {w wr w' W : World} {fv : Array Value} {v : Value} {us : List Value} {cs : List (List Int)}
theorem CL.keep (h : CL w wr fv v us cs) (hb : Below wr.heap.size wr w') : CL w w' fv v us cs :=
  ⟨h.b0.keep hb, h.om.keep hb, h.ok, Nat.le_trans h.hi hb.size, h.bl.trans (hb.mono h.bl.size)⟩
theorem CL.push {u v' : Value} {c : List Int} {o : Obj} (h : CL w W fv v us cs) (hW : ∀ g, v.ownBlock = some g → g < W.heap.size) (h' : CL w w' fv v us cs) (hu : Own w' W.heap.size u c) (hc : OkCl c) (hlo : w.heap.size + 1 ≤ W.heap.size)
    {w2 : World} (ho : w2.ownsRow (w.heap.size + 1) 49 1 v' (us.length + 1) (us ++ [u])) (hg : (w'.alloc o).grownBy w2 v.ownBlock) (hat : v'.ownBlock = v.ownBlock ∨ v'.ownBlock = some (w'.alloc o).heap.size) : CL w w2 fv v' (us ++ [u]) (cs ++ [c]) := by
  have hlt : ∀ g, v.ownBlock = some g → w.heap.size + 1 ≤ g := fun g e => (h'.om.1.lt g e).1
  refine ⟨(h'.b0.alloc o).grown hg fun e => by have := hlt _ e.symm; omega, h'.om.push (hu.intsO fun b hb _ _ => ⟨by omega, fun e => by have := hW b e.symm; omega⟩) ho hg hat, fun x hx => ?_, ?_, ?_⟩
  · rcases List.mem_append.1 hx with hx | hx
    · exact h.ok x hx
    · rw [List.mem_singleton] at hx; subst hx; exact hc
  · have := hg.size; have := h'.hi; simp at this ⊢; have h3 := hg.size; simp at h3; omega
  · exact (h'.bl.alloc h'.bl.size o).grown hg (by have := h'.bl.size; simp; omega) fun g e => by have := hlt g e; omega
theorem CL.out (h : CL w wr fv v us cs) : ClsOk w cs v wr := ⟨us, ⟨owns_base h.om.1 (by omega), h.om.2.1, fun k u xs a b => (h.om.2.2 k u xs a b).mono fun b _ hb => ⟨by have := hb.1; omega, hb.2⟩⟩, h.bl⟩
end

set_option maxRecDepth 100000 in
set_option maxHeartbeats 1000000 in
theorem pclauses_any (fv lv : Value) (f : Form) (l : List Stp) (w : World) (hf : IsForm w fv f) (hl : Stps w lv l) (hq : Asked f l) :
    Calls Tryd.prog 33 #[fv, lv] w (ClsRet w (runS f [] l)) := by
  obtain ⟨hv, hcl, hn, hll⟩ := hq
  have HF := Lib.hid hf
  have HV := Lib.hid hv
  have HCL := Lib.hid hcl
  have HLL := Lib.hid hll
  obtain ⟨av, cv, rfl, -, -, hf3, hf4⟩ := hf
  obtain ⟨Aa, ca, rfl, -, -, -, -⟩ := hf3
  obtain ⟨Ac, cc, vs, rfl, -, -, -, -, -⟩ := hf4
  obtain ⟨A, c, ps, hps, rfl, l1, l2, l3, l4⟩ := hl
  have hpl : ps.length = l.length := by rw [hps]; simp
  have HPS := Lib.hid hps
  have HPL := Lib.hid hpl
  have HR := Lib.hid l3
  have H4 := Lib.hid l4
  unfold maxLen at l2
  have hpn : ps.length ≤ 100000 := by omega
  clear hv hcl hll hps hpl l3 l4
  obtain ⟨iS, hiS, hzS0, hzS1, hzS2⟩ := info_parts info_ints
  go_enter Tryd.func33, Tryd.ntmps33
  go_wp2_with (at_make; refine wpList_make_own _ rfl _ _ 24 rfl (w.heap.size + 1) 49 iS (.slice none 0 0) 1 Tryd.underlying24 hiS hzS0 hzS1 .i64 .i64 _ ps.length rfl rfl rfl (by rw [hzS2]; omega) (by unfold maxLen; omega) (by simp) ?_; intro w0 hown0 hg0)
  have hCL : CL w w0 #[.int .i64 f.ints, .int .i64 f.bools, .slice Aa f.atoms.length ca, .slice Ac f.clauses.length cc] (.slice (some ⟨w.heap.size + 1, 0, none⟩) 0 ps.length) [] [] := by
    refine ⟨(Blk.new w _ _).grown hg0 (by simp), ⟨by simpa using hown0, rfl, fun k u xs h => by simp at h⟩, by simp, by have := hg0.size; simp at this; omega, ?_⟩
    exact ((Below.refl w.heap.size w).alloc (Nat.le_refl _) _).grown hg0 (by simp) (by simp)
  have HCL0 := Lib.hid hCL
  clear hCL hown0 hg0
  go_loopw [7, 17] (fun v i wr => ∃ (k : Nat) (us : List Value) (cs : List (List Int)), k ≤ ps.length ∧ i = .int .i64 k ∧ cs.length = k ∧ runS f cs (l.drop k) = runS f [] l ∧ CL w wr #[.int .i64 f.ints, .int .i64 f.bools, .slice Aa f.atoms.length ca, .slice Ac f.clauses.length cc] v us cs) (fun _ i _ => ps.length - (intOf i).toNat)
  case atStart => exact ⟨0, [], [], by omega, rfl, rfl, rfl, HCL0.out⟩
  case round =>
    obtain ⟨k, us, cs, hk, rfl, hck, hrun, hcl⟩ := hrel
    have H1 := Lib.hid hcl
    have HCK := Lib.hid hck
    have HRUN := Lib.hid hrun
    have hul : us.length = k := by rw [hcl.om.2.1, hck]
    have HUL := Lib.hid hul
    obtain ⟨Ax, cx, hx, -, -, -⟩ := owns_rd hcl.om.1
    subst hx
    have q0 := hcl.b0.cell 0
    have q1 := hcl.b0.cell 1
    have q2 := hcl.b0.cell 2
    have q3 := hcl.b0.cell 3
    simp only [List.getElem?_toArray, List.getElem?_cons_zero, List.getElem?_cons_succ] at q0 q1 q2 q3
    clear hcl hck hrun hul
    by_cases hlt : k < ps.length
    · obtain ⟨⟨s, sv⟩, hp⟩ : ∃ p, ps[k]? = some p := ⟨_, List.getElem?_eq_getElem hlt⟩
      obtain ⟨b1, o1, rfl, hb1, t0, t1, t2, t3, t4, t5⟩ := Stps.at_ (HR.out.keep H1.out.bl) hp
      have HP := Lib.hid (H4.out (s, sv) (List.mem_of_getElem? hp))
      have HLK : Hid (l[k]? = some s) := by refine Lib.hid ?_; rw [HPS.out, List.getElem?_map, hp]; rfl
      obtain ⟨As, cs', hsv, -, -, -, -⟩ := HP.out.1
      simp only at hsv t0 t1 t2 t3 t4 t5
      subst hsv
      clear hp
      have HB3 : Hid (Below wr.heap.size wr (wr.alloc (.cells #[.int .i64 s.kind, .int .i64 s.index, .slice As s.lits.length cs', .int .i64 s.p, .int .i64 s.q, .int .i64 s.var] 81))) := (Below.refl _ _).alloc (Nat.le_refl _) _
      have B0 := H1.out.b0.keep HB3.out
      have z0 := B0.cell 0
      have z1 := B0.cell 1
      have z2 := B0.cell 2
      have z3 := B0.cell 3
      simp only [List.getElem?_toArray, List.getElem?_cons_zero, List.getElem?_cons_succ] at z0 z1 z2 z3
      clear B0
      go_wp2_with fail
      have H3 := Lib.hid (H1.out.keep HB3.out)
      have hbs : ∀ g, (Value.slice Ax us.length cx).ownBlock = some g → g < wr.heap.size := fun g e => (H1.out.om.1.lt g e).2
      have HBS := Lib.hid hbs
      have HISF : Hid (IsForm (wr.alloc (.cells #[.int .i64 s.kind, .int .i64 s.index, .slice As s.lits.length cs', .int .i64 s.p, .int .i64 s.q, .int .i64 s.var] 81)) (.agg #[.int .i64 f.ints, .int .i64 f.bools, .slice Aa f.atoms.length ca, .slice Ac f.clauses.length cc]) f) := HF.out.keep H3.out.bl
      have HISS : Hid (IsStp (wr.alloc (.cells #[.int .i64 s.kind, .int .i64 s.index, .slice As s.lits.length cs', .int .i64 s.p, .int .i64 s.q, .int .i64 s.var] 81)) (.agg #[.int .i64 s.kind, .int .i64 s.index, .slice As s.lits.length cs', .int .i64 s.p, .int .i64 s.q, .int .i64 s.var]) s) := ⟨_, rfl, HP.out.1.keep H3.out.bl, HP.out.2.1, HP.out.2.2.1, HP.out.2.2.2.1, HP.out.2.2.2.2.1, HP.out.2.2.2.2.2⟩
      clear q0 q1 q2 q3 z0 z1 z2 z3 t0 t1 t2 t3 t4 t5 hbs
      generalize hW3 : wr.alloc (.cells #[.int .i64 s.kind, .int .i64 s.index, .slice As s.lits.length cs', .int .i64 s.p, .int .i64 s.q, .int .i64 s.var] 81) = W3 at *
      have hsW : W3.heap.size = wr.heap.size + 1 := by rw [← hW3]; simp
      have HSW := Lib.hid hsW
      clear hW3 hsW
      refine (pderive_any _ _ _ f s cs _ HISF.out HISS.out H3.out.om.mat HV.out HCL.out H3.out.ok (HLL.out s (List.mem_of_getElem? HLK.out))).mono ?_
      rintro e w4 ⟨v, rfl, h5, h6⟩
      have H5 := Lib.hid h5
      have H6 := Lib.hid (H3.out.keep h6)
      clear h5 h6
      cases hd : deriv f s cs with
      | none =>
        have HN : Hid (runS f [] l = (cs, false)) := by rw [← HRUN.out]; exact runS_stop HLK.out hd
        clear hd
        simp only [Option.isSome_none]
        go_wp2_with fail
        go_ret3
        exact .inr ⟨by rw [HN.out], by rw [HN.out, HCK.out]; rfl, H6.out.bl⟩
      | some d =>
        have HN : Hid (runS f (cs ++ [d]) (l.drop (k + 1)) = runS f [] l) := by rw [← HRUN.out]; exact runS_step HLK.out hd
        have HOC := Lib.hid (deriv_ok HV.out H3.out.ok hd)
        rw [hd] at H5
        simp only [Option.getD_some, Option.isSome_some] at H5 ⊢
        obtain ⟨Ad, cd, hdv, -, -, -⟩ := owns_rd H5.out.1
        subst hdv
        clear hd
        go_wp2_with (at_builtin; refine wpList_append_own_at _ rfl _ _ 24 rfl (w.heap.size + 1) 49 iS (.slice none 0 0) 1 24 Tryd.underlying24 hiS hzS0 hzS1 hzS2 rfl (by decide) _ _ _ rfl (H6.out.om.1.alloc _) ⟨w4.heap.size, 0, none⟩ 1 1 [.slice Ad d.length cd] rfl rfl (one_at w4 _ _) ?a2 ?a3 ?a4 ?a5 ?_)
        case a2 => first | rfl | (intro u hu; simp at hu; subst hu; rfl)
        case a3 => have := HUL.out; unfold maxLen; omega
        case a4 => have := HUL.out; omega
        case a5 => have := H6.out.hi; first | omega | (simp; omega)
        intro v' w5 hown' hgrow _ hat
        have H7 := Lib.hid (H3.out.push (fun g e => by have := HBS.out g e; have := HSW.out; omega) H6.out H5.out HOC.out H3.out.hi hown' hgrow (by simpa using hat))
        obtain ⟨Ap, cp, hvp, -, -, -⟩ := owns_rd hown'
        subst hvp
        clear hown' hgrow hat
        go_wp2_with fail
        go_roundw
        case rel => exact ⟨k + 1, us ++ [.slice Ad d.length cd], cs ++ [d], by omega, by go_num, by simp [HCK.out], HN.out, H7.out⟩
        case measure => simp [intOf]; omega
    · have HN : Hid (runS f [] l = (cs, true)) := by rw [← HRUN.out]; exact runS_end (by have := HPL.out; omega)
      go_wp2_with fail
      go_ret3
      exact .inl ⟨by rw [HN.out], _, rfl, by rw [HN.out]; exact H1.out.out⟩

/-- What Check returns: whether the steps are a refutation, else where they are wrong. -/
def chk (r : List (List Int) × Bool) (n : Nat) : Int × Int :=
  if r.2 = true then (if n = 0 ∨ (r.1.getD (n - 1) []) ≠ [] then ((n : Int), 15) else (0, 0)) else ((r.1.length : Int), 15)
def ChkRet (w : World) (p : Int × Int) (e : Ending) (w' : World) : Prop := e = .returned (.tuple #[.int .i64 p.1, .int .i64 p.2]) ∧ Below w.heap.size w w'

theorem runS_len {f : Form} : ∀ (l : List Stp) (cs : List (List Int)), (runS f cs l).2 = true → (runS f cs l).1.length = cs.length + l.length := by
  intro l
  induction l with
  | nil => intro cs _; simp [runS]
  | cons s r ih =>
    intro cs h
    rw [runS] at h ⊢
    cases hd : deriv f s cs with
    | none => rw [hd] at h; cases h
    | some c =>
      rw [hd] at h
      have := ih (cs ++ [c]) h
      rw [this]; simp; omega

set_option maxRecDepth 100000 in
set_option maxHeartbeats 1000000 in
theorem pcheck_any (fv lv : Value) (f : Form) (l : List Stp) (w : World) (hf : IsForm w fv f) (hl : Stps w lv l) (hq : Asked f l) :
    Calls Tryd.prog 34 #[fv, lv] w (ChkRet w (chk (runS f [] l) l.length)) := by
  have HF := Lib.hid hf
  have HQ := Lib.hid hq
  have HL := Lib.hid hl
  obtain ⟨av, cv, rfl, -, -, hf3, hf4⟩ := hf
  obtain ⟨Aa, ca, rfl, -, -, -, -⟩ := hf3
  obtain ⟨Ac, cc, vs, rfl, -, -, -, -, -⟩ := hf4
  obtain ⟨A, c, ps, hps, rfl, l1, l2, -, -⟩ := hl
  have hpl : ps.length = l.length := by rw [hps]; simp
  have HPL := Lib.hid hpl
  unfold maxLen at l2
  have hpn : ps.length ≤ 100000 := by have := hq.2.2.1; omega
  clear hq hps hpl
  have HB : Hid (Below w.heap.size w (w.alloc (.cells #[.int .i64 f.ints, .int .i64 f.bools, .slice Aa f.atoms.length ca, .slice Ac f.clauses.length cc] 26))) := (Below.refl _ _).alloc (Nat.le_refl _) _
  go_enter Tryd.func34, Tryd.ntmps34
  go_wp2_with fail
  refine (pclauses_any _ _ f l _ (HF.out.keep HB.out) (HL.out.keep HB.out) HQ.out).mono ?_
  rintro e w2 hret
  cases hr : runS f [] l with
  | mk cs ok =>
    have HR := Lib.hid hr
    rw [hr] at hret
    rcases hret with ⟨h1, v, rfl, us, hom, hb⟩ | ⟨h1, rfl, hb⟩
    · simp only at h1
      subst h1
      have hcl : cs.length = ps.length := by have := runS_len (f := f) l [] (by rw [hr]); rw [hr] at this; simpa [HPL.out] using this
      have hul : us.length = ps.length := by rw [hom.2.1]; exact hcl
      have HB2 := Lib.hid (HB.out.trans (hb.mono HB.out.size))
      have HM := Lib.hid hom.mat
      obtain ⟨Ax, cx, hx, -, -, hrd⟩ := owns_rd hom.1
      subst hx
      have HOM := Lib.hid hom
      have HRD := Lib.hid hrd
      have HCL := Lib.hid hcl
      have HUL := Lib.hid hul
      clear hr hb hom hrd hcl hul
      by_cases h0 : ps.length = 0
      · have d0 : ((ps.length : Int) == 0) = true := by simp; exact List.eq_nil_of_length_eq_zero h0
        have HC : Hid (chk (runS f [] l) l.length = ((ps.length : Int), 15)) := by refine Lib.hid ?_; rw [HR.out, ← HPL.out]; unfold chk; rw [if_pos rfl, if_pos (.inl h0)]
        clear h0
        go_wp2_with fail
        go_ret2
        exact ⟨by rw [HC.out]; rfl, HB2.out⟩
      · have d0 : ((ps.length : Int) == 0) = false := by simp; intro h; exact h0 (by rw [h]; rfl)
        obtain ⟨c, hc⟩ : ∃ c, cs[ps.length - 1]? = some c := ⟨_, List.getElem?_eq_getElem (by have := HCL.out; omega)⟩
        obtain ⟨A', c', vs', hv', m1, m2, m3, m4, m5⟩ := HM.out
        injection hv' with e1 e2 e3
        subst e1 e3
        obtain ⟨b, off, A1, c1, rfl, hb, hcell, hI⟩ := Mat.at_ m4 m3 m5 hc
        have HD : Hid (cs.getD (ps.length - 1) [] = c) := by refine Lib.hid ?_; simp [List.getD, hc]
        have hps0 : 1 ≤ ps.length := by omega
        have huI : Hid (us.length = ps.length) := HUL.out
        have hidx : ((ps.length : Int) - 1).toNat = ps.length - 1 := by omega
        have hlt : (ps.length : Int) - 1 < (us.length : Int) := by have := HUL.out; omega
        clear m1 m2 m3 m4 m5 hc hI e2
        by_cases hc0 : c = []
        · subst hc0
          have HC : Hid (chk (runS f [] l) l.length = (0, 0)) := by refine Lib.hid ?_; rw [HR.out, ← HPL.out]; unfold chk; rw [if_pos rfl, if_neg (by rw [HD.out]; exact fun h => h.elim h0 fun h => h rfl)]
          simp only [List.length_nil] at hcell
          clear h0
          go_wp2_with fail
          go_ret2
          exact ⟨by rw [HC.out]; rfl, HB2.out⟩
        · have HC : Hid (chk (runS f [] l) l.length = ((ps.length : Int), 15)) := by refine Lib.hid ?_; rw [HR.out, ← HPL.out]; unfold chk; rw [if_pos rfl, if_pos (.inr (by rw [HD.out]; exact hc0))]
          have hcl : 0 < c.length := List.length_pos_iff.2 hc0
          have dc : decide ((0 : Int) < (c.length : Int)) = true := by simp; omega
          have dc' : decide (0 < c.length) = true := by simp; omega
          clear h0 hc0
          go_wp2_with fail
          go_ret2
          exact ⟨by rw [HC.out]; rfl, HB2.out⟩
    · simp only at h1
      subst h1
      have HB2 := Lib.hid (HB.out.trans (hb.mono HB.out.size))
      have HC : Hid (chk (runS f [] l) l.length = ((cs.length : Int), 15)) := by refine Lib.hid ?_; rw [HR.out]; rfl
      clear hr hb
      go_wp2_with fail
      go_ret2
      exact ⟨by rw [HC.out]; rfl, HB2.out⟩
end Go.Proofs.YtfffalfnjficaaaDoor
