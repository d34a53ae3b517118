/-
  WALK: (*formula.reader).formula.
-/
import Derived.Test.YtfffalfnjficaaaDoorRForm
import Derived.Deep.RegionHeld3
namespace Go.Proofs.YtfffalfnjficaaaDoor
open Go.RowKit

/-- The value v is the formula f, wherever blocks below B are written. -/
def FormK (B : Nat) (w : World) (v : Value) (f : Form) : Prop := ∀ w2 : World, w.heap.size ≤ w2.heap.size → (∀ k, B ≤ k → k < w.heap.size → w2.heap[k]? = w.heap[k]?) → IsForm w2 v f
/-- What the method formula does. -/
def FmRet (w : World) (g : Nat) (s : List UInt8) (e : Ending) (w' : World) : Prop :=
  ∃ r, ParseR s r ∧ w.grownBy w' (some g) ∧ match r with
    | .ok f => ∃ Aa ca Ac cc, e = .returned (.agg #[.int .i64 f.ints, .int .i64 f.bools, .slice Aa f.atoms.length ca, .slice Ac f.clauses.length cc]) ∧ FormK w.heap.size w' (.agg #[.int .i64 f.ints, .int .i64 f.bools, .slice Aa f.atoms.length ca, .slice Ac f.clauses.length cc]) f
    | .bad k => e = wrongL ∧ ∃ rest, RdrAt w' g rest k
/-- The formula is stored in the result's block. -/
theorem FmS.fin {w wr w' : World} {g fb : Nat} {av cv : Value} {us : List Value} {f : Form} (h : FmS w wr g fb av cv us f) (hg : wr.grownBy w' (some w.heap.size)) : FormK w.heap.size w' (.agg #[.int .i64 f.ints, .int .i64 f.bools, av, cv]) f ∧ w.grownBy w' (some g) := by
  have h1 := h.glt
  have h2 := h.lo
  have a8 := h.at_.kept hg (own_ne h.at_ (by omega))
  have c8 := h.cl.grown hg (own_ne h.cl.1 (by omega)) (fun b hb e => by injection e with e; omega)
  refine ⟨fun w2 hs hk => ⟨_, _, rfl, h.i1, h.i2, owns_diffs (owns_far a8 (by omega) hk) h.aok, (c8.far (by omega) (fun b hb => by omega) hs hk).mat⟩, ?_⟩
  exact grown_then h.gr ((Below.refl _ wr).grown hg h.gr.size fun k e => by injection e with e; omega)
theorem numsW_len {word : List UInt8} {c : Nat} {l : List (List UInt8)} {ns : List Int} (h : numsW word c l = some ns) : ns.length = c := by
  cases l with
  | nil => cases h
  | cons a t =>
    change (if a = word ∧ t.length = c then t.mapM canonI else none) = some ns at h
    by_cases hc : a = word ∧ t.length = c
    · rw [if_pos hc] at h; rw [mapM_len h]; exact hc.2
    · rw [if_neg hc] at h; cases h
theorem head_none {a : List UInt8} (h : numsW wFormula 2 (pieces 32 a) = none) : headF a = none := by unfold headF; rw [h]
theorem head_some {a : List UInt8} {x y : Int} (h : numsW wFormula 2 (pieces 32 a) = some [x, y]) : headF a = some ⟨x, y, [], []⟩ := by unfold headF; rw [h]
theorem nums_some {w w' : World} {ns : List Int} {v : Value} (h : NumsRet w (some ns) (.returned v) w') : ∃ g, v = .slice (some ⟨g, 0, none⟩) ns.length ns.length ∧ w.heap.size ≤ g ∧ Blk w' g 3 (rowI ns) ∧ (∀ x ∈ ns, I64 x) ∧ Below w.heap.size w w' := by
  rcases h with ⟨ns', g, e, hv, h1, h2, h3, h4⟩ | ⟨e, _⟩
  · injection e with e; subst e
    injection hv with hv
    exact ⟨g, hv, h1, h2, h3, h4⟩
  · cases e
theorem nums_ret {w w' : World} {ns : List Int} {e : Ending} (h : NumsRet w (some ns) e w') : ∃ v, e = .returned v := by
  rcases h with ⟨ns', g, _, hv, _⟩ | ⟨e, _⟩
  · exact ⟨_, hv⟩
  · cases e
theorem nums_none {w w' : World} {e : Ending} (h : NumsRet w none e w') : e = .panicked [{ v := .iface 103 (.agg #[]), recovered := false }] ∧ Below w.heap.size w w' := by
  rcases h with ⟨ns', g, e, _⟩ | ⟨_, h1, h2⟩
  · cases e
  · exact ⟨h1, h2⟩
def restLen (g : Nat) (w : World) : Nat := match w.cell? ⟨g, 0, none⟩ with
  | some (.string s) => s.size
  | _ => 0
theorem restLen_eq {w : World} {g line : Nat} {r : List UInt8} (h : RdrAt w g r line) : restLen g w = r.length := by
  have r0 := h.cell 0
  simp only [List.getElem?_toArray, List.getElem?_cons_zero] at r0
  unfold restLen; rw [r0]; show r.toArray.size = _; simp

set_option maxRecDepth 100000 in
set_option maxHeartbeats 8000000 in
theorem rformula_any (g : Nat) (s : List UInt8) (w : World) (h : RdrAt w g s 0) (hl : s.length ≤ 1000000) (hp : PL w) (hg : GB g) :
    Calls Tryd.prog 24 #[.pointer (some ⟨g, 0, none⟩)] w (FmRet w g s) := by
  have hgl := h.lt
  have hg0 : 0 < g := hg.1
  have HG := Lib.hid hg
  have hb1 : Below w.heap.size w (w.alloc (.cells #[.int .i64 0, .int .i64 0, .slice none 0 0, .slice none 0 0] 26)) := by go_grown
  have HRB := Lib.hid (Blk.new w 26 #[.int .i64 0, .int .i64 0, .slice none 0 0, .slice none 0 0])
  have hr1 : RdrAt (w.alloc (.cells #[.int .i64 0, .int .i64 0, .slice none 0 0, .slice none 0 0] 26)) g s 0 := h.keep hb1
  have HP1 := Lib.hid (hp.below hb1)
  have HR1 := Lib.hid hr1
  have HB1 := Lib.hid hb1
  have HW1 : Hid (∀ w', (w.alloc (.cells #[.int .i64 0, .int .i64 0, .slice none 0 0, .slice none 0 0] 26)).grownBy w' (some g) → PL w') := Lib.hid (fun w' hw => HP1.out.grown hw (Nat.le_refl g) (by simp; omega) hg)
  clear h hp hb1 hr1 hg
  go_enter Tryd.func24, Tryd.ntmps24
  go_wp2_with fail
  rcases nl_split s with hn | ⟨a, b, hab, hna⟩
  · have HN := Lib.hid hn
    refine (next_bad g s 0 _ HR1.out hn hl (by omega) HP1.out.ml hg0).mono ?_
    clear hn
    rintro e w2 ⟨rfl, hr, hgr⟩
    have HR2 := Lib.hid hr
    have HGR := Lib.hid (grownBy_trans (below_grown HB1.out (some g)) hgr)
    clear hr hgr
    unfold wrongL
    go_wp2_with fail
    exact ⟨rfl, .bad 1, .cut HN.out, HGR.out, rfl, _, HR2.out⟩
  · have hla : a.length + 1 + b.length ≤ 1000000 := by rw [hab] at hl; simp at hl; omega
    refine (rnext_ok g s a b 0 _ HR1.out hab hna hl (by omega) HP1.out.ml hg0).mono ?_
    have HAB := Lib.hid hab
    have HNA := Lib.hid hna
    clear hab hna
    rintro e w2 ⟨A, k, rfl, htx, hr, hgr⟩
    obtain ⟨h0, ps, hps⟩ : ∃ h0 ps, pieces 32 a = h0 :: ps := by
      cases hc : pieces 32 a with
      | nil => exact absurd hc (pieces_ne _ _)
      | cons x y => exact ⟨x, y, rfl⟩
    have hpn := pieces_len 32 a
    have hpl : ∀ p ∈ ps, p.length ≤ 1000000 := fun p hp => by
      have := (pieces_mem (c := 32) (s := a) (p := p) (by rw [hps]; simp [hp])).2
      omega
    have HP2 := Lib.hid (HW1.out w2 hgr)
    have HGR := Lib.hid hgr
    have HR2 := Lib.hid hr
    obtain ⟨n, hn⟩ : ∃ n, (pieces 32 a).length = n := ⟨_, rfl⟩
    rw [hn] at htx hpn ⊢
    have hn2 : n = ps.length + 1 := by rw [← hn, hps]; rfl
    have HTX : Hid (Txts w2 (.slice A n k) (h0 :: ps)) := Lib.hid (by rw [← hps]; exact htx)
    have HPS := Lib.hid hps
    have HPL := Lib.hid hpl
    have HN2 := Lib.hid hn2
    clear htx hr hgr hps hpl hn hn2
    go_wp2_with fail
    refine (nums_any _ A n k h0 ps wFormula 2 w2 HTX.out HN2.out (by omega) HPL.out (by omega) HP2.out).mono ?_
    rintro e w3 (⟨ns, g3, hns, rfl, hge, hblk, hi64, hb⟩ | ⟨hns, rfl, hb⟩)
    · have hns2 := numsW_len hns
      obtain ⟨x, y, rfl⟩ : ∃ x y, ns = [x, y] := by
        match ns, hns2 with
        | [x, y], _ => exact ⟨x, y, rfl⟩
      have HHD : Hid (headF a = some ⟨x, y, [], []⟩) := Lib.hid (head_some (by rw [HPS.out]; exact hns))
      have HXY : Hid (I64 x ∧ I64 y) := Lib.hid ⟨hi64 x (by simp), hi64 y (by simp)⟩
      have HB3 := Lib.hid hb
      have c0 := hblk.cell 0
      have c1 := hblk.cell 1
      simp only [rowI, List.map_cons, List.map_nil, List.getElem?_toArray, List.getElem?_cons_zero, List.getElem?_cons_succ] at c0 c1
      clear hns hns2 hblk hi64 hb
      simp only [List.length_cons, List.length_nil]
      go_upto_region 2 with fail
      go_region_held3 (fun w' => w'.cell? ⟨g3, 0, none⟩ = some (.int .i64 x) ∧ w'.cell? ⟨g3, 1, none⟩ = some (.int .i64 y)) (go_keep) (fail)
      have hb4 : Below w3.heap.size w3 (w3.alloc (.cells #[.int .i64 x, .int .i64 y, .slice none 0 0, .slice none 0 0] 26)).drew := by go_grown
      have F4 : Blk (w3.alloc (.cells #[.int .i64 x, .int .i64 y, .slice none 0 0, .slice none 0 0] 26)).drew w3.heap.size 26 #[.int .i64 x, .int .i64 y, .slice none 0 0, .slice none 0 0] := Blk.new w3 _ _
      have hz4 : w3.heap.size < (w3.alloc (.cells #[.int .i64 x, .int .i64 y, .slice none 0 0, .slice none 0 0] 26)).drew.heap.size := by simp
      generalize (w3.alloc (.cells #[.int .i64 x, .int .i64 y, .slice none 0 0, .slice none 0 0] 26)).drew = w4 at *
      have HG4 : Hid (w.grownBy w4 (some g)) := Lib.hid (grownBy_trans (below_grown HB1.out _) (grownBy_trans HGR.out (grownBy_trans (below_grown HB3.out _) (below_grown hb4 _))))
      have hsz : w.heap.size + 1 ≤ w3.heap.size := by have h1 := HGR.out.size; have h2 := HB3.out.size; simp at h1; omega
      obtain ⟨fb, hfb⟩ : ∃ fb, fb = w3.heap.size := ⟨_, rfl⟩
      have HFS : Hid (FmS w w4 g fb (.slice none 0 0) (.slice none 0 0) [] ⟨x, y, [], []⟩) := Lib.hid (by
        rw [hfb]
        refine ⟨HG4.out, hgl, ?_, F4, by omega, hz4, World.ownsRow_nil _ _ _ _, by simp, OwnMat.nil _ _ _, HXY.out.1, HXY.out.2⟩
        exact ((HRB.out.grown HGR.out (by intro e; injection e with e; omega)).keep HB3.out).keep hb4)
      have HR4 : Hid (RdrAt w4 g b 1) := Lib.hid ((HR2.out.keep HB3.out).keep hb4)
      have HP4 : Hid (PL w4) := Lib.hid ((HP2.out.below HB3.out).below hb4)
      have HGO : Hid (∀ r, RunR ⟨x, y, [], []⟩ 2 b r → ParseR s r) := Lib.hid (fun r hr => .go HAB.out HNA.out HHD.out hr)
      have hbl : 1 + b.length ≤ 1000000 := by omega
      rw [← hfb]
      clear hb4 F4 hz4 hsz HGR HR2 HP2 HB3 HRB HR1 HP1 HB1 HW1 HTX HPS HPL HN2 HHD HXY HAB HNA hge c0 c1 hpn hfb
      go_wp2_with fail
      go_loopw [5] (fun _ wr => ∃ (R : List UInt8) (line : Nat) (F : Form) (av cv : Value) (us : List Value), Hid (RdrAt wr g R line) ∧ Hid (FmS w wr g fb av cv us F) ∧ Hid (PL wr) ∧ Hid (∀ r, RunR F (line + 1) R r → ParseR s r) ∧ line + R.length ≤ 1000000 ∧ F.atoms.length ≤ line ∧ F.clauses.length ≤ line) (fun _ wr => restLen g wr)
      case atStart => exact ⟨b, 1, _, _, _, _, HR4, HFS, HP4, HGO, hbl, by simp, by simp⟩
      case round =>
        clear HR4 HFS HP4 HGO hbl HG4
        obtain ⟨R, line, F, av, cv, us, HRD, HFS, HPL, HGO, hsz, hal, hcl⟩ := hrel
        obtain ⟨wo, hwo⟩ : ∃ wo : World, wo = wr := ⟨_, rfl⟩
        rw [← hwo] at HRD HFS HPL ⊢
        clear hwo
        have HRL : Hid (restLen g wo = R.length) := Lib.hid (restLen_eq HRD.out)
        obtain ⟨Aa, ca, hav, -, -, -⟩ := owns_rd HFS.out.at_
        subst hav
        obtain ⟨Ac, cc, hcv, -, -, -⟩ := owns_rd HFS.out.cl.1
        rw [HFS.out.cl.2.1] at hcv
        subst hcv
        have r0 := HRD.out.cell 0
        simp only [List.getElem?_toArray, List.getElem?_cons_zero] at r0
        by_cases hR : R = []
        · subst hR
          have HPO : Hid (ParseR s (.ok F)) := Lib.hid (HGO.out _ (.done _ _))
          have c0 := HFS.out.fbk.cell 0
          have c1 := HFS.out.fbk.cell 1
          have c2 := HFS.out.fbk.cell 2
          have c3 := HFS.out.fbk.cell 3
          have d0 := HFS.out.rb.cell 0
          have d1 := HFS.out.rb.cell 1
          have d2 := HFS.out.rb.cell 2
          have d3 := HFS.out.rb.cell 3
          have z0 := HFS.out.rb.frozen 0
          have z1 := HFS.out.rb.frozen 1
          have z2 := HFS.out.rb.frozen 2
          have z3 := HFS.out.rb.frozen 3
          simp only [List.getElem?_toArray, List.getElem?_cons_zero, List.getElem?_cons_succ] at c0 c1 c2 c3 d0 d1 d2 d3
          have B8 := blk_set4 HFS.out.rb (.int .i64 F.ints) (.int .i64 F.bools) (.slice Aa F.atoms.length ca) (.slice Ac F.clauses.length cc)
          have hfin := HFS.out.fin (grown_set4 wo w.heap.size (.int .i64 F.ints) (.int .i64 F.bools) (.slice Aa F.atoms.length ca) (.slice Ac F.clauses.length cc))
          unfold set4 at B8 hfin
          have HB8 := Lib.hid B8
          have HFN := Lib.hid hfin
          clear B8 hfin
          go_wp2_with fail
          clear c0 c1 c2 c3 d0 d1 d2 d3 z0 z1 z2 z3
          generalize (((wo.setCell ⟨w.heap.size, 0, none⟩ (.int .i64 F.ints)).setCell ⟨w.heap.size, 1, none⟩ (.int .i64 F.bools)).setCell ⟨w.heap.size, 2, none⟩ (.slice Aa F.atoms.length ca)).setCell ⟨w.heap.size, 3, none⟩ (.slice Ac F.clauses.length cc) = W8 at *
          have u0 := HB8.out.cell 0
          have u1 := HB8.out.cell 1
          have u2 := HB8.out.cell 2
          have u3 := HB8.out.cell 3
          simp only [List.getElem?_toArray, List.getElem?_cons_zero, List.getElem?_cons_succ] at u0 u1 u2 u3
          exact bodyPost_ret (v := .agg #[.int .i64 F.ints, .int .i64 F.bools, .slice Aa F.atoms.length ca, .slice Ac F.clauses.length cc]) (by simp [results, Tryd.results24, go_sem, u0, u1, u2, u3]) rfl ⟨.ok F, HPO.out, HFN.out.2, _, _, _, _, rfl, HFN.out.1⟩
        · have e1 : (R == []) = false := by rw [beq_eq_false_iff_ne]; exact hR
          rcases nl_split R with hn | ⟨a1, b1, hab, hna⟩
          · have HPO : Hid (ParseR s (.bad (line + 1))) := Lib.hid (HGO.out _ (.cut hR hn))
            have HN := Lib.hid hn
            clear hR hn
            go_wp2_with fail
            refine (next_bad g R line _ HRD.out HN.out (by omega) (by omega) HPL.out.ml hg0).mono ?_
            rintro e w2 ⟨rfl, hr, hgr⟩
            have HR2 := Lib.hid hr
            have HGR := Lib.hid (grownBy_trans HFS.out.gr hgr)
            clear hr hgr
            unfold wrongL
            go_wp2_with fail
            exact ⟨rfl, .bad (line + 1), HPO.out, HGR.out, rfl, _, HR2.out⟩
          · have hlb : a1.length + 1 + b1.length = R.length := by rw [hab]; simp; omega
            have HAB := Lib.hid hab
            have HNA := Lib.hid hna
            clear hab hna hR
            go_wp2_with fail
            refine (rnext_ok g R a1 b1 line _ HRD.out HAB.out HNA.out (by omega) (by omega) HPL.out.ml hg0).mono ?_
            rintro e w2 ⟨A1, k1, rfl, htx, hr, hgr⟩
            obtain ⟨h0, ps, hps⟩ : ∃ h0 ps, pieces 32 a1 = h0 :: ps := by
              cases hc : pieces 32 a1 with
              | nil => exact absurd hc (pieces_ne _ _)
              | cons x y => exact ⟨x, y, rfl⟩
            have hpn := pieces_len 32 a1
            have hpl : ∀ p ∈ ps, p.length ≤ 1000000 := fun p hp => by
              have := (pieces_mem (c := 32) (s := a1) (p := p) (by rw [hps]; simp [hp])).2
              omega
            have HFS2 := Lib.hid (HFS.out.rdr hgr)
            have HP2 := Lib.hid (HPL.out.grown hgr (Nat.le_refl g) (by have := HRD.out.lt; omega) HG.out)
            have HR2 := Lib.hid hr
            obtain ⟨n1, hn1⟩ : ∃ n, (pieces 32 a1).length = n := ⟨_, rfl⟩
            rw [hn1] at htx hpn ⊢
            have hn2 : n1 = ps.length + 1 := by rw [← hn1, hps]; rfl
            have htx2 : Txts w2 (.slice A1 n1 k1) (h0 :: ps) := by rw [← hps]; exact htx
            have HTX := Lib.hid htx2
            have HPS := Lib.hid hps
            have HPX := Lib.hid hpl
            obtain ⟨A', c', ex, kx1, kx2, hrd⟩ := htx2
            injection ex with ex1 ex2 ex3
            subst ex1 ex3
            obtain ⟨bw, ow, rfl, hbw, hcw⟩ := hrd.at_ (k := 0) (u := .string ⟨h0.toArray⟩) rfl
            rw [Nat.add_zero] at hcw
            have f3 := HFS2.out.fbk.cell 3
            simp only [List.getElem?_toArray, List.getElem?_cons_zero, List.getElem?_cons_succ] at f3
            have hn0 : 0 < n1 := by omega
            have hps6 : ps.length ≤ 1000000 := by omega
            have HN2 := Lib.hid hn2
            rw [← ex2] at kx1
            unfold maxLen at kx2
            clear htx hr hgr hps hpl hn1 hn2 hrd ex2 r0
            have HGF : Hid (g < fb ∧ GB fb) := Lib.hid (by
              have h1 := HFS2.out.lo
              have h2 := HFS2.out.glt
              obtain ⟨a0, a1, a2, a3⟩ := HG.out
              exact ⟨by omega, by omega, by omega, by omega, by omega⟩)
            by_cases hA : h0 = wAtom ∧ F.clauses.length = 0
            · obtain ⟨hA1, hA2⟩ := hA
              have q1 : (h0 == [97, 116, 111, 109]) = true := by rw [beq_iff_eq]; exact hA1
              have q2 : ((F.clauses.length : Int) == 0) = true := by rw [hA2]; rfl
              have HST : Hid (stepF F a1 = stepAtom F (numsW wAtom 3 (h0 :: ps))) := Lib.hid (stepF_atom HPS.out hA1 (List.eq_nil_of_length_eq_zero hA2))
              clear hA1 hA2
              go_wp2_with fail
              refine (nums_any _ _ n1 k1 h0 ps wAtom 3 w2 HTX.out HN2.out (by omega) HPX.out (by omega) HP2.out).mono ?_
              rintro e w3 (⟨ns, g4, hns, rfl, hge, hblk, hi64, hb⟩ | ⟨hns, rfl, hb⟩)
              · have hns2 := numsW_len hns
                obtain ⟨x1, y1, z1, rfl⟩ : ∃ x y z, ns = [x, y, z] := by
                  match ns, hns2 with
                  | [x, y, z], _ => exact ⟨x, y, z, rfl⟩
                have HXO : Hid (Diff.ok ⟨x1, y1, z1⟩) := Lib.hid ⟨hi64 x1 (by simp), hi64 y1 (by simp), hi64 z1 (by simp)⟩
                have HSN : Hid (stepF F a1 = some { F with atoms := F.atoms ++ [⟨x1, y1, z1⟩] }) := Lib.hid (by rw [HST.out, hns]; rfl)
                have HFS3 := Lib.hid (HFS2.out.keep hb)
                have HR3 : Hid (RdrAt w3 g b1 (line + 1)) := Lib.hid (HR2.out.keep hb)
                have HP3 := Lib.hid (HP2.out.below hb)
                have j0 := hblk.cell 0
                have j1 := hblk.cell 1
                have j2 := hblk.cell 2
                have v2 := HFS3.out.fbk.cell 2
                have hblk4 := hblk.alloc (.cells #[.int .i64 x1, .int .i64 y1, .int .i64 z1] 48)
                have v2a := (HFS3.out.fbk.alloc (.cells #[.int .i64 x1, .int .i64 y1, .int .i64 z1] 48)).cell 2
                simp only [rowI, List.map_cons, List.map_nil, List.getElem?_toArray, List.getElem?_cons_zero, List.getElem?_cons_succ] at j0 j1 j2 v2 v2a
                obtain ⟨iD, hiD, hzD0, hzD1, hzD2⟩ := info_parts info_diff
                have HNW := Lib.hid (cells_at w3 48 [.int .i64 x1, .int .i64 y1, .int .i64 z1] rfl)
                have HON : Hid (∀ u ∈ ([.int .i64 x1, .int .i64 y1, .int .i64 z1] : List Value), u.oneCell' = true) := Lib.hid (by intro u hu; simp at hu; rcases hu with rfl | rfl | rfl <;> rfl)
                have HM1 : Hid (F.atoms.length + 1 ≤ maxLen) := by refine Lib.hid ?_; unfold maxLen; omega
                have HM2 : Hid ((F.atoms.length + 1) * 24 ≤ 140737488355328) := by refine Lib.hid ?_; omega
                have HM3 : Hid (fb + 1 ≤ (w3.alloc (.cells #[.int .i64 x1, .int .i64 y1, .int .i64 z1] 48)).heap.size) := by refine Lib.hid ?_; have := HFS3.out.hi; simp; omega
                simp only [List.length_cons, List.length_nil]
                clear hns hns2 hblk hblk4 hi64 hb f3 hcw e1 q1 q2 HST HTX HPS HPX HN2 HRD HFS HPL
                go_upto_region 7 with fail
                go_region_law (refine step_app_own rfl (.tmp 39) (.tmp 50) 23 rfl (fb + 1) 48 iD (.agg #[.int .i64 0, .int .i64 0, .int .i64 0]) 3 24 Tryd.underlying23 hiD hzD0 hzD1 hzD2 rfl (by decide) (.slice Aa F.atoms.length ca) F.atoms.length (F.atoms.flatMap Diff.cells) (by first | rfl | simp [Act.eval]) (HFS3.out.at_.alloc _).drew ⟨w3.heap.size, 0, none⟩ 1 1 [.int .i64 x1, .int .i64 y1, .int .i64 z1] (by first | rfl | simp [Act.eval]) rfl HNW.out HON.out HM1.out HM2.out HM3.out ?_; intro v' w5 hown hg hat; obtain ⟨A', c', hv', -, -, -⟩ := owns_rd hown; subst hv'; obtain ⟨hfs5, hf5, hbe⟩ := HFS3.out.atom (d := ⟨x1, y1, z1⟩) HXO.out hown (show (w3.alloc _).grownBy w5 _ from ⟨hg.os, hg.tape, hg.output, hg.size, hg.block⟩) hat; have HFS5 := Lib.hid hfs5; have c5 := hf5.cell 2; have z5 := hf5.frozen 2; simp only [List.getElem?_toArray, List.getElem?_cons_zero, List.getElem?_cons_succ] at c5; have HR5 := Lib.hid (HR3.out.below hbe HGF.out.1); have HP5 := Lib.hid (HP3.out.keep hbe HGF.out.2); clear hfs5 hf5 hown hg hat hbe)
                all_goals
                  clear j0 j1 j2 v2 v2a c5 z5 HNW HON HM1 HM2 HM3 HFS3 HR3 HP3 HXO
                  generalize w5.setCell ⟨fb, 2, none⟩ (.slice A' (F.atoms.length + 1) c') = w6 at *
                  go_wp2_with fail
                  go_roundw
                  case rel => exact ⟨b1, line + 1, _, _, _, _, HR5, HFS5, HP5, Lib.hid (fun r hr => HGO.out r (.next HAB.out HNA.out HSN.out hr)), by omega, by simp; omega, by simp; omega⟩
                  case measure => rw [HRL.out, restLen_eq HR5.out]; omega
              · have HBD : Hid (FmRet w g s wrongL w3) := Lib.hid ⟨.bad (line + 1), HGO.out _ (.wrong HAB.out HNA.out (by rw [HST.out, hns]; rfl)), grownBy_trans HFS2.out.gr (below_grown hb _), rfl, _, HR2.out.keep hb⟩
                clear hns hb
                unfold wrongL
                go_wp2_with fail
                exact ⟨rfl, HBD.out⟩
            · have HST : Hid (stepF F a1 = stepClause F (numsW wClause ps.length (h0 :: ps))) := Lib.hid (stepF_clause HPS.out (fun e => hA ⟨e.1, by rw [e.2]; rfl⟩))
              have HCT : Hid (Calls Tryd.prog 42 #[.pointer (some ⟨g, 0, none⟩), .slice (some ⟨bw, ow, none⟩) n1 k1, .string ⟨wClause.toArray⟩, .int .i64 ps.length] w2.drew (NumsRet w2.drew (numsW wClause ps.length (h0 :: ps)))) := Lib.hid (nums_any _ _ n1 k1 h0 ps wClause ps.length w2.drew HTX.out HN2.out (by omega) HPX.out hps6 (HP2.out.below (Below.refl _ _).drew))
              have HFS2 : Hid (FmS w w2.drew g fb (.slice Aa F.atoms.length ca) (.slice Ac F.clauses.length cc) us F) := Lib.hid (HFS2.out.keep (Below.refl _ _).drew)
              have HR2 : Hid (RdrAt w2.drew g b1 (line + 1)) := Lib.hid (HR2.out.keep (Below.refl _ _).drew)
              have HP2 : Hid (PL w2.drew) := Lib.hid (HP2.out.below (Below.refl _ _).drew)
              have hwr : IntKind.i64.wrap ((n1 : Int) - 1) = (ps.length : Int) := by rw [show ((n1 : Int) - 1) = (ps.length : Int) by have := HN2.out; omega]; exact IntWalk.i64_in _ (by omega)
              have HWR := Lib.hid hwr
              have hq : ((h0 == [97, 116, 111, 109]) = true ∧ ((F.clauses.length : Int) == 0) = false) ∨ (h0 == [97, 116, 111, 109]) = false := by
                by_cases h1 : h0 = wAtom
                · refine .inl ⟨by rw [beq_iff_eq]; exact h1, ?_⟩
                  rw [beq_eq_false_iff_ne]; intro e; exact hA ⟨h1, by omega⟩
                · refine .inr ?_; rw [beq_eq_false_iff_ne]; exact h1
              clear hA
              cases hns : numsW wClause ps.length (h0 :: ps) with
              | none =>
                have HST2 : Hid (stepF F a1 = none) := Lib.hid (by rw [HST.out, hns]; rfl)
                rw [hns] at HCT
                clear hns
                have HFN : Hid (∀ w', Below w2.drew.heap.size w2.drew w' → FmRet w g s (.panicked [{ v := .iface 103 (.agg #[]), recovered := false }]) w') := Lib.hid (fun w' hb => ⟨.bad (line + 1), HGO.out _ (.wrong HAB.out HNA.out HST2.out), grownBy_trans HFS2.out.gr (below_grown hb _), rfl, _, HR2.out.keep hb⟩)
                have f3d := HFS2.out.fbk.cell 3
                have z3d := HFS2.out.fbk.frozen 3
                have f3a := ((show Blk w2 fb _ _ from HFS2.out.fbk).alloc (.cells #[.slice none 0 0] 49)).cell 3
                simp only [List.getElem?_toArray, List.getElem?_cons_zero, List.getElem?_cons_succ] at f3d f3a
                rcases hq with ⟨q1, q2⟩ | q1
                all_goals
                  go_upto_region 8 with fail
                  go_region_law (first
                    | (refine step_call_off rfl 42 _ _ rfl _ Tryd.func42 (by kernel_rfl) (by kernel_rfl) #[.pointer (some ⟨g, 0, none⟩), .slice (some ⟨bw, ow, none⟩) n1 k1, .string ⟨wClause.toArray⟩, .int .i64 ps.length] (by first | rfl | (simp [Act.eval, Act.put, wClause]; done)) HCT.out [{ v := .iface 103 (.agg #[]), recovered := false }] (fun e w' h => (nums_none h).1) (fun w' h => ⟨rfl, HFN.out w' (nums_none h).2⟩) (.slice none 0 0) w2.drew ?_; intro HFF)
                    | (refine step_off HFF (.slice none 0 0) w2.drew ?_))
                  all_goals exact HFF.out.elim
              | some ns =>
                have hns2 := numsW_len hns
                have HSN : Hid (stepF F a1 = some { F with clauses := F.clauses ++ [ns] }) := Lib.hid (by rw [HST.out, hns]; rfl)
                rw [hns] at HCT
                clear hns
                obtain ⟨iS, hiS, hzS0, hzS1, hzS2⟩ := info_parts info_ints
                have HUL : Hid (us.length = F.clauses.length) := Lib.hid HFS2.out.cl.2.1
                have HMX : Hid (ns.length ≤ maxLen) := Lib.hid (by unfold maxLen; omega)
                clear hns2
                rcases hq with ⟨q1, q2⟩ | q1
                all_goals
                  go_upto_region 8 with fail
                  go_region_law (first
                    | (refine step_call_ret rfl 42 _ _ rfl _ Tryd.func42 (by kernel_rfl) (by kernel_rfl) #[.pointer (some ⟨g, 0, none⟩), .slice (some ⟨bw, ow, none⟩) n1 k1, .string ⟨wClause.toArray⟩, .int .i64 ps.length] (by first | rfl | (simp [Act.eval, Act.put, wClause]; done)) HCT.out (fun e w' h => nums_ret h) ?_; intro v w3 hv; obtain ⟨gz, hv2, hge, hbk, hi6, hb⟩ := nums_some hv; subst hv2; have HFS3 := Lib.hid (HFS2.out.keep hb); have HR3 := Lib.hid (HR2.out.keep hb); have HP3 := Lib.hid (HP2.out.below hb); have HFR := Lib.hid (HFS2.out.fresh hge hbk hi6 HMX.out); have v3 := HFS3.out.fbk.cell 3; have v3a := (HFS3.out.fbk.alloc (.cells #[.slice (some ⟨gz, 0, none⟩) ns.length ns.length] 49)).cell 3; simp only [List.getElem?_toArray, List.getElem?_cons_zero, List.getElem?_cons_succ] at v3 v3a; have HO1 : Hid (∀ u ∈ ([.slice (some ⟨gz, 0, none⟩) ns.length ns.length] : List Value), u.oneCell' = true) := Lib.hid (by intro u hu; simp at hu; subst hu; rfl); have HM1 : Hid (us.length + 1 ≤ maxLen) := (by refine Lib.hid ?_; have := HUL.out; unfold maxLen; omega); have HM2 : Hid ((us.length + 1) * 24 ≤ 140737488355328) := (by refine Lib.hid ?_; have := HUL.out; omega); have HM3 : Hid (fb + 1 ≤ (w3.alloc (.cells #[.slice (some ⟨gz, 0, none⟩) ns.length ns.length] 49)).heap.size) := (by refine Lib.hid ?_; have := HFS3.out.hi; simp; omega); clear hv hge hbk hi6 hb)
                    | (refine step_app_own rfl (.tmp 54) (.tmp 61) 24 rfl (fb + 1) 49 iS (.slice none 0 0) 1 24 Tryd.underlying24 hiS hzS0 hzS1 hzS2 rfl (by decide) (.slice Ac F.clauses.length cc) us.length us (by first | rfl | simp [Act.eval]) (HFS3.out.cl.1.alloc _) ⟨w3.heap.size, 0, none⟩ 1 1 [.slice (some ⟨gz, 0, none⟩) ns.length ns.length] (by first | rfl | simp [Act.eval]) rfl (one_at w3 _ _) HO1.out HM1.out HM2.out HM3.out ?_; intro v' w5 hown hg hat; obtain ⟨A', c', hv', -, -, -⟩ := owns_rd hown; subst hv'; obtain ⟨hfs5, hf5, hbe⟩ := HFS3.out.clause HFR.out hown hg hat; have HFS5 := Lib.hid hfs5; have HR5 := Lib.hid (HR3.out.below hbe HGF.out.1); have HP5 := Lib.hid (HP3.out.keep hbe HGF.out.2); have c5 := hf5.cell 3; have z5 := hf5.frozen 3; simp only [List.getElem?_toArray, List.getElem?_cons_zero, List.getElem?_cons_succ] at c5; clear hfs5 hf5 hown hg hat hbe))
                  all_goals
                    clear v3 v3a c5 z5 HO1 HM1 HM2 HM3 HFS3 HR3 HP3 HFR
                    generalize w5.setCell ⟨fb, 3, none⟩ (.slice A' (us.length + 1) c') = w6 at *
                    go_wp2_with fail
                    go_roundw
                    case rel => exact ⟨b1, line + 1, _, _, _, _, HR5, HFS5, HP5, Lib.hid (fun r hr => HGO.out r (.next HAB.out HNA.out HSN.out hr)), by omega, by simp; omega, by simp; omega⟩
                    case measure => rw [HRL.out, restLen_eq HR5.out]; omega
    · have HBD : Hid (FmRet w g s wrongL w3) := Lib.hid ⟨.bad 1, .wrong HAB.out HNA.out (head_none (by rw [HPS.out]; exact hns)), grownBy_trans (below_grown HB1.out _) (grownBy_trans HGR.out (below_grown hb _)), rfl, _, HR2.out.keep hb⟩
      clear hns hb
      unfold wrongL
      go_wp2_with fail
      exact ⟨rfl, HBD.out⟩
end Go.Proofs.YtfffalfnjficaaaDoor
