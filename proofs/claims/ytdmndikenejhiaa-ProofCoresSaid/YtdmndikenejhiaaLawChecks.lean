/-
  WALK: interleavelaw33.ProofChecks.
-/
import Derived.Test.YtdmndikenejhiaaLawAccepts
import Derived.Test.YtdmndikenejhiaaBase33
namespace Go.Proofs.Ytdmndikenejhiaa
open Go.RowKit

theorem cells_set {ps : List (Stp × Value)} {i k : Nat} {p q : Stp × Value} {u : Value} (hi : ps[i]? = some p) (hk : k < 6) (hu : (Stp.cells p).set k u = Stp.cells q) : (ps.flatMap Stp.cells).set (i * 6 + k) u = (ps.set i q).flatMap Stp.cells := by
  induction ps generalizing i with
  | nil => simp at hi
  | cons r ps ih =>
    cases i with
    | zero =>
      simp at hi; subst hi
      rw [List.set_cons_zero, List.flatMap_cons, List.flatMap_cons, Nat.zero_mul, Nat.zero_add, List.set_append_left _ _ (by simp [Stp.cells]; exact hk), hu]
    | succ i =>
      rw [List.getElem?_cons_succ] at hi
      rw [List.set_cons_succ, List.flatMap_cons, List.flatMap_cons, List.set_append_right _ _ (by simp [Stp.cells]; omega), ← ih hi]
      refine congrArg (fun n => Stp.cells r ++ (ps.flatMap Stp.cells).set n u) ?_
      simp [Stp.cells]; omega
theorem cells_len (ps : List (Stp × Value)) : (ps.flatMap Stp.cells).length = ps.length * 6 := by
  induction ps with
  | nil => rfl
  | cons p ps ih => rw [List.flatMap_cons, List.length_append, ih]; simp [Stp.cells]; omega
theorem cells_one {w : World} {ps : List (Stp × Value)} (h : ∀ p ∈ ps, Ints w p.2 p.1.lits ∧ p.1.ok) : ∀ u ∈ ps.flatMap Stp.cells, u.oneCell' = true := by
  intro u hu
  obtain ⟨p, hp, hu⟩ := List.mem_flatMap.1 hu
  obtain ⟨A, c, e, -⟩ := (h p hp).1
  simp only [Stp.cells, e, List.mem_cons, List.not_mem_nil, or_false] at hu
  rcases hu with rfl | rfl | rfl | rfl | rfl | rfl <;> rfl
theorem cells_get {ps : List (Stp × Value)} {i k : Nat} {p : Stp × Value} {u : Value} (hi : ps[i]? = some p) (hu : (Stp.cells p)[k]? = some u) : (ps.flatMap Stp.cells)[i * 6 + k]? = some u := by
  have hk : k < 6 := by have := (List.getElem?_eq_some_iff.1 hu).1; simpa [Stp.cells] using this
  induction ps generalizing i with
  | nil => simp at hi
  | cons r ps ih =>
    cases i with
    | zero =>
      simp at hi; subst hi
      rw [List.flatMap_cons, Nat.zero_mul, Nat.zero_add, List.getElem?_append_left (by simp [Stp.cells]; exact hk)]; exact hu
    | succ i =>
      rw [List.getElem?_cons_succ] at hi
      rw [List.flatMap_cons, List.getElem?_append_right (by simp [Stp.cells]; omega), ← ih hi]
      refine congrArg (fun n => (ps.flatMap Stp.cells)[n]?) ?_
      simp [Stp.cells]; omega
theorem tmod_lt (n m : Int) (hm : 0 < m) : -m < n.tmod m ∧ n.tmod m < m := by
  have h := Int.natAbs_tmod n m
  have h2 : n.natAbs % m.natAbs < m.natAbs := Nat.mod_lt _ (by omega)
  omega
/-- Steps that lie in a row of the call's own. -/
structure OS (wb w : World) (g cap : Nat) (ps : List (Stp × Value)) : Prop where
  o : w.ownsRow wb.heap.size 50 6 (.slice (some ⟨g, 0, none⟩) ps.length cap) ps.length (ps.flatMap Stp.cells)
  i : ∀ p ∈ ps, Ints w p.2 p.1.lits ∧ p.1.ok
  bl : Below wb.heap.size wb w
section
variable {wb w w' : World} {g cap : Nat} {ps : List (Stp × Value)}
theorem OS.stps (h : OS wb w g cap ps) : Stps w (.slice (some ⟨g, 0, none⟩) ps.length cap) (ps.map (·.1)) := by
  obtain ⟨A, c, h1, h2, h3, h4⟩ := owns_rd h.o
  exact ⟨A, c, ps, rfl, h1, h2, h3, h4, h.i⟩
theorem OS.lo (h : OS wb w g cap ps) : wb.heap.size ≤ g ∧ g < w.heap.size := h.o.lt g rfl
theorem OS.keep (h : OS wb w g cap ps) (hb : Below w.heap.size w w') : OS wb w' g cap ps := ⟨owns_keep h.o hb, fun p hp => ⟨(h.i p hp).1.keep hb, (h.i p hp).2⟩, h.bl.trans (hb.mono h.bl.size)⟩
end
/-- A store into a field of a step. -/
theorem OS.set_ {wb w : World} {g cap : Nat} {ps : List (Stp × Value)} (h : OS wb w g cap ps) {i k : Nat} {p q : Stp × Value} {u : Value} (hi : ps[i]? = some p) (hk : k < 6) (hu : (Stp.cells p).set k u = Stp.cells q) (hq : q.1.ok) (hx : ∀ r ∈ q :: ps, IntsO w (fun b => b ≠ g) r.2 r.1.lits) : OS wb (w.setCell ⟨g, i * 6 + k, none⟩ u) g cap (ps.set i q) := by
  obtain ⟨h1, h2⟩ := h.o.stored (i * 6 + k) u
  rw [cells_set hi hk hu] at h1
  refine ⟨by rw [List.length_set]; exact h1, fun r hr => ?_, h.bl.grown h2 h.bl.size fun b e => by injection e with e; have := h.lo; omega⟩
  rcases List.mem_or_eq_of_mem_set hr with hr | rfl
  · exact ⟨((hx r (by simp [hr])).grown h2 fun b hb e => hb (by injection e)).ints, (h.i r hr).2⟩
  · exact ⟨((hx _ (by simp)).grown h2 fun b hb e => hb (by injection e)).ints, hq⟩

set_option maxRecDepth 100000 in
set_option maxHeartbeats 2000000 in
theorem lawChecks (pv : Value) (a b c : Int) (L : List Int) (n1 n2 n3 : Int) (w : World) (hp : IsProb w pv a b c L) (n10 : 0 ≤ n1) (n11 : n1 ≤ 255) (n20 : 0 ≤ n2) (n21 : n2 ≤ 255) (n30 : I64 n3) :
    Calls Try.prog 5 #[pv, .int .u8 n1, .int .u8 n2, .int .i64 n3] w fun e w' => e = .returned (.bool true) ∧ Below w.heap.size w w' := by
  have HN3 := Lib.hid n30
  obtain ⟨n31, n32⟩ := n30
  have HP := Lib.hid hp
  obtain ⟨nv, rfl, -, -, -, hL⟩ := hp
  obtain ⟨An, cn, rfl, -, -, -, -⟩ := hL
  have HB : Hid (Below w.heap.size w (w.alloc (.cells #[.int .u8 a, .int .u8 b, .int .u8 c, .slice An L.length cn] 25))) := (Below.refl _ _).alloc (Nat.le_refl _) _
  go_enter Try.func5, Try.ntmps5
  go_wp2_with fail
  generalize w.alloc (.cells #[.int .u8 a, .int .u8 b, .int .u8 c, .slice An L.length cn] 25) = W at *
  refine (small_any _ a b c L _ ?hp).mono ?_
  case hp => obtain ⟨nv, e1, e2⟩ := HP.out; exact ⟨_, rfl, e2.1, e2.2.1, e2.2.2.1, by injection e1 with e1; simp only [Array.mk.injEq, List.cons.injEq, and_true, true_and] at e1; rw [e1]; exact e2.2.2.2.keep HB.out⟩
  rintro e w2 ⟨fv, f, rfl, hf, hsm, hb2⟩
  have HB2 := Lib.hid (HB.out.trans (hb2.mono HB.out.size))
  have HF2 := Lib.hid hf
  have HSM := Lib.hid hsm
  obtain ⟨av, cv, rfl, -, -, hf3, hf4⟩ := hf
  obtain ⟨Aa, ca, rfl, -, -, -, -⟩ := hf3
  obtain ⟨Ac, cc, vs, rfl, -, -, -, -, -⟩ := hf4
  clear hb2 hsm
  have B1 := Blk.new w2 32 #[.int .i64 f.ints, .int .i64 f.bools, .slice Aa f.atoms.length ca, .slice Ac f.clauses.length cc]
  have hb3 : Below w2.heap.size w2 (w2.alloc (.cells #[.int .i64 f.ints, .int .i64 f.bools, .slice Aa f.atoms.length ca, .slice Ac f.clauses.length cc] 32)) := (Below.refl _ _).alloc (Nat.le_refl _) _
  go_wp2_with fail
  generalize w2.alloc (.cells #[.int .i64 f.ints, .int .i64 f.bools, .slice Aa f.atoms.length ca, .slice Ac f.clauses.length cc] 32) = w3 at *
  have HBK := Lib.hid B1
  have HF3 := Lib.hid (HF2.out.keep hb3)
  have HB3 := Lib.hid (HB2.out.trans (hb3.mono HB2.out.size))
  clear B1 hb3
  refine (refuteAll_any _ f _ HF3.out HSM.out.q HSM.out.ten).mono ?_
  rintro e w4 ⟨hb4, ⟨lv, l, rfl, hl, hrf, hl1, hl2⟩ | ⟨bv, iv, bs, xs, rfl, hB, hX, hbl, hxl, hfit, hcls, hxb⟩⟩
  · have HF4 := Lib.hid (HF3.out.keep hb4)
    have HB4 := Lib.hid (HB3.out.trans (hb4.mono HB3.out.size))
    have HBK4 := Lib.hid (HBK.out.keep hb4)
    have HL := Lib.hid hl
    have HRF := Lib.hid hrf
    have HL2 := Lib.hid hl2
    have hb5 : Below w4.heap.size w4 (w4.alloc (.cells #[.slice none 0 0, .slice none 0 0] 45)) := (Below.refl _ _).alloc (Nat.le_refl _) _
    have HF5 := Lib.hid (HF4.out.keep hb5)
    have HL5 := Lib.hid (HL.out.keep hb5)
    have HB5 := Lib.hid (HB4.out.trans (hb5.mono HB4.out.size))
    have HBK5 := Lib.hid (HBK4.out.keep hb5)
    clear hb4 hl hrf hl2 hb5
    go_upto_region 5 with fail
    generalize w4.alloc (.cells #[.slice none 0 0, .slice none 0 0] 45) = w5 at *
    obtain ⟨A, cl, ps, e1, e2, e3, e4, e5, e6⟩ := HL5.out
    subst e1 e2
    have HRD := Lib.hid e5
    have HIN := Lib.hid e6
    have hp0 : 0 < ps.length := by obtain ⟨_, _, h, _⟩ := HRF.out; simpa using h
    have hpl : ps.length ≤ 20000 := by simpa using hl1
    unfold maxLen at e4
    obtain ⟨iT, hiT, hzT0, hzT1, hzT2⟩ := info_parts info_step
    clear e5 e6 hl1
    have HLN := Lib.hid (show (ps.flatMap Stp.cells).length = ps.length * 6 from cells_len ps)
    have HON := Lib.hid (cells_one HIN.out)
    have H63 : Hid (0 + ps.length ≤ maxLen) := by refine Lib.hid ?_; unfold maxLen; omega
    have HBY : Hid ((0 + ps.length) * 64 ≤ 140737488355328) := by refine Lib.hid ?_; omega
    go_wp2_with (at_builtin; refine wpList_append_rd _ rfl _ _ 26 rfl w5.heap.size 50 iT zT 6 64 Try.underlying26 hiT hzT0 hzT1 hzT2 rfl (by decide) (.slice none 0 0) 0 [] rfl (World.ownsRow_nil _ _ _ _) A ps.length cl (ps.flatMap Stp.cells) rfl HLN.out HRD.out HON.out H63.out HBY.out (Nat.le_refl _) ?_)
    intro v6 w6 hown hgrow hat
    obtain ⟨g, cap, ev⟩ : ∃ g cap, v6 = .slice (some ⟨g, 0, none⟩) ps.length cap := by
      rcases owns_shape hown with ⟨_, h0, _⟩ | h
      · omega
      · exact h
    subst ev
    have hb6 : Below w5.heap.size w5 w6 := grownBy_below hgrow (Nat.le_refl _) (fun k e => by cases e)
    have HO6 : Hid (OS w5 w6 g cap ps) := ⟨hown, fun p hp => ⟨(HIN.out p hp).1.keep hb6, (HIN.out p hp).2⟩, hb6⟩
    have hgl := HO6.out.lo
    have HX6 : Hid (∀ r ∈ ps, IntsO w6 (fun b => b ≠ g) r.2 r.1.lits) := Lib.hid fun r hr => (((HIN.out r hr).1.intsO (P := fun b => b < w5.heap.size) fun b hb => hb).keep hb6).mono fun b _ hb => by omega
    obtain ⟨-, -, ec1, ec2, -⟩ := rd_of_row hown
    unfold maxLen at ec2
    obtain ⟨K, hK⟩ : ∃ K : Nat, n1 % (ps.length : Int) = (K : Int) := ⟨(n1 % (ps.length : Int)).toNat, by have := Int.emod_nonneg n1 (show (ps.length : Int) ≠ 0 by omega); omega⟩
    have hKl : K < ps.length := by have := Int.emod_lt_of_pos n1 (show (0 : Int) < (ps.length : Int) by omega); omega
    obtain ⟨p, hpK⟩ : ∃ p, ps[K]? = some p := ⟨_, List.getElem?_eq_getElem hKl⟩
    have HPK := Lib.hid hpK
    have HPO := Lib.hid (HIN.out p (List.mem_of_getElem? hpK)).2
    have HPL := Lib.hid (HL2.out p.1 (List.mem_map.2 ⟨p, List.mem_of_getElem? hpK, rfl⟩))
    clear hpK hown hgrow hat hb6 hgl
    have hc : ∀ (j : Nat) (u : Value), (Stp.cells p)[j]? = some u → w6.cell? ⟨g, K * 6 + j, none⟩ = some u := by
      intro j u hu
      have hj : j < 6 := by have := (List.getElem?_eq_some_iff.1 hu).1; simpa [Stp.cells] using this
      rw [HO6.out.o.cellAt (K * 6 + j) (by omega)]
      exact cells_get HPK.out hu
    have hz : ∀ j, w6.frozen? ⟨g, j, none⟩ = false := fun j => HO6.out.o.frozenAt j
    have HC := Lib.hid hc
    have HZ := Lib.hid hz
    clear hc hz
    have hF : n2 % 8 = 0 ∨ n2 % 8 = 1 ∨ n2 % 8 = 2 ∨ n2 % 8 = 3 ∨ n2 % 8 = 4 ∨ n2 % 8 = 5 ∨ n2 % 8 = 6 ∨ n2 % 8 = 7 := by omega
    have hm5 : -5 < n3.tmod 5 ∧ n3.tmod 5 < 5 := tmod_lt n3 5 (by omega)
    have hm50 : -50 < n3.tmod 50 ∧ n3.tmod 50 < 50 := tmod_lt n3 50 (by omega)
    have hm20 : -20 < n3.tmod 20 ∧ n3.tmod 20 < 20 := tmod_lt n3 20 (by omega)
    have hml : -((ps.length : Int) + 1) < n3.tmod ((ps.length : Int) + 1) ∧ n3.tmod ((ps.length : Int) + 1) < (ps.length : Int) + 1 := tmod_lt n3 _ (by omega)
    have HM5 := Lib.hid hm5
    have HM50 := Lib.hid hm50
    have HM20 := Lib.hid hm20
    have HML := Lib.hid hml
    clear hm5 hm50 hm20 hml
    rcases hF with hF | hF | hF | hF | hF | hF | hF | hF
    · have hc := HC.out 0 _ rfl
      have hz := HZ.out (K * 6 + 0)
      simp only [Nat.add_zero] at hc hz
      have HO7 : Hid (OS w5 (w6.setCell ⟨g, K * 6, none⟩ (.int .i64 (n3.tmod 5))) g cap (ps.set K ({ p.1 with kind := (n3.tmod 5) }, p.2))) := Lib.hid (HO6.out.set_ (k := 0) HPK.out (by omega) rfl (by obtain ⟨o1, o2, o3, o4, o5⟩ := HPO.out; have := HM5.out; refine ⟨?_, ?_, ?_, ?_, ?_⟩ <;> first | assumption | (constructor <;> simp only <;> omega)) (fun r hr => by rcases List.mem_cons.1 hr with rfl | hr; exact HX6.out p (List.mem_of_getElem? HPK.out); exact HX6.out r hr))
      go_upto_region 22 with fail
      generalize w6.setCell ⟨g, K * 6, none⟩ (.int .i64 (n3.tmod 5)) = w7 at *
      clear hc hz
      generalize hps : ps.set K ({ p.1 with kind := (n3.tmod 5) }, p.2) = ps2 at *
      have hpl2 : ps2.length = ps.length := by rw [← hps]; simp
      have HS7 : Hid (Stps w7 (.slice (some ⟨g, 0, none⟩) ps.length cap) (ps2.map (·.1))) := by
        have h := HO7.out.stps
        rw [hpl2] at h
        exact h
      have HAS : Hid (Asked f (ps2.map (·.1))) := Lib.hid (HSM.out.asked (by simp; omega) (fun s hs => by
        obtain ⟨r, hr, rfl⟩ := List.mem_map.1 hs
        rw [← hps] at hr
        rcases List.mem_or_eq_of_mem_set hr with hr | rfl
        · have := HL2.out r.1 (List.mem_map.2 ⟨r, hr, rfl⟩); omega
        · have := HPL.out; simp only; omega))
      clear hps hpl2
      have HBL7 := Lib.hid (HB5.out.trans (HO7.out.bl.mono HB5.out.size))
      have HF7 := Lib.hid (HF5.out.keep HO7.out.bl)
      have HBK7 := Lib.hid (HBK5.out.keep HO7.out.bl)
      have q0 := HBK7.out.cell 0
      have q1 := HBK7.out.cell 1
      have q2 := HBK7.out.cell 2
      have q3 := HBK7.out.cell 3
      simp only [List.getElem?_toArray, List.getElem?_cons_zero, List.getElem?_cons_succ] at q0 q1 q2 q3
      go_wp2_with fail
      refine (pcheck_any _ _ f (ps2.map (·.1)) _ HF7.out HS7.out HAS.out).mono ?_
      rintro e w8 ⟨rfl, hb8⟩
      have HBL8 := Lib.hid (HBL7.out.trans (hb8.mono HBL7.out.size))
      have HF8 := Lib.hid (HF7.out.keep hb8)
      have HBK8 := Lib.hid (HBK7.out.keep hb8)
      have HS8 := Lib.hid ((HS7.out).keep hb8)
      clear hb8 q0 q1 q2 q3
      have q0 := HBK8.out.cell 0
      have q1 := HBK8.out.cell 1
      have q2 := HBK8.out.cell 2
      have q3 := HBK8.out.cell 3
      simp only [List.getElem?_toArray, List.getElem?_cons_zero, List.getElem?_cons_succ] at q0 q1 q2 q3
      go_wp2_with fail
      refine (rcheck_any _ _ f (ps2.map (·.1)) _ HF8.out HS8.out HAS.out).mono ?_
      rintro e w9 ⟨rfl, hb9⟩
      have HBL9 := Lib.hid (HBL8.out.trans (hb9.mono HBL8.out.size))
      clear hb9 q0 q1 q2 q3
      go_wp2_with fail
      refine (awake33 _).mono ?_
      rintro e wz ⟨rfl, hbz⟩
      have HBZ := Lib.hid (HBL9.out.trans (hbz.mono HBL9.out.size))
      clear hbz
      go_wp2_with fail
      go_ret
      exact ⟨rfl, HBZ.out⟩
    · have hc := HC.out 1 _ rfl
      have hz := HZ.out (K * 6 + 1)
      have HO7 : Hid (OS w5 (w6.setCell ⟨g, K * 6 + 1, none⟩ (.int .i64 (n3.tmod 50))) g cap (ps.set K ({ p.1 with index := (n3.tmod 50) }, p.2))) := Lib.hid (HO6.out.set_ (k := 1) HPK.out (by omega) rfl (by obtain ⟨o1, o2, o3, o4, o5⟩ := HPO.out; have := HM50.out; refine ⟨?_, ?_, ?_, ?_, ?_⟩ <;> first | assumption | (constructor <;> simp only <;> omega)) (fun r hr => by rcases List.mem_cons.1 hr with rfl | hr; exact HX6.out p (List.mem_of_getElem? HPK.out); exact HX6.out r hr))
      go_upto_region 22 with fail
      generalize w6.setCell ⟨g, K * 6 + 1, none⟩ (.int .i64 (n3.tmod 50)) = w7 at *
      clear hc hz
      generalize hps : ps.set K ({ p.1 with index := (n3.tmod 50) }, p.2) = ps2 at *
      have hpl2 : ps2.length = ps.length := by rw [← hps]; simp
      have HS7 : Hid (Stps w7 (.slice (some ⟨g, 0, none⟩) ps.length cap) (ps2.map (·.1))) := by
        have h := HO7.out.stps
        rw [hpl2] at h
        exact h
      have HAS : Hid (Asked f (ps2.map (·.1))) := Lib.hid (HSM.out.asked (by simp; omega) (fun s hs => by
        obtain ⟨r, hr, rfl⟩ := List.mem_map.1 hs
        rw [← hps] at hr
        rcases List.mem_or_eq_of_mem_set hr with hr | rfl
        · have := HL2.out r.1 (List.mem_map.2 ⟨r, hr, rfl⟩); omega
        · have := HPL.out; simp only; omega))
      clear hps hpl2
      have HBL7 := Lib.hid (HB5.out.trans (HO7.out.bl.mono HB5.out.size))
      have HF7 := Lib.hid (HF5.out.keep HO7.out.bl)
      have HBK7 := Lib.hid (HBK5.out.keep HO7.out.bl)
      have q0 := HBK7.out.cell 0
      have q1 := HBK7.out.cell 1
      have q2 := HBK7.out.cell 2
      have q3 := HBK7.out.cell 3
      simp only [List.getElem?_toArray, List.getElem?_cons_zero, List.getElem?_cons_succ] at q0 q1 q2 q3
      go_wp2_with fail
      refine (pcheck_any _ _ f (ps2.map (·.1)) _ HF7.out HS7.out HAS.out).mono ?_
      rintro e w8 ⟨rfl, hb8⟩
      have HBL8 := Lib.hid (HBL7.out.trans (hb8.mono HBL7.out.size))
      have HF8 := Lib.hid (HF7.out.keep hb8)
      have HBK8 := Lib.hid (HBK7.out.keep hb8)
      have HS8 := Lib.hid ((HS7.out).keep hb8)
      clear hb8 q0 q1 q2 q3
      have q0 := HBK8.out.cell 0
      have q1 := HBK8.out.cell 1
      have q2 := HBK8.out.cell 2
      have q3 := HBK8.out.cell 3
      simp only [List.getElem?_toArray, List.getElem?_cons_zero, List.getElem?_cons_succ] at q0 q1 q2 q3
      go_wp2_with fail
      refine (rcheck_any _ _ f (ps2.map (·.1)) _ HF8.out HS8.out HAS.out).mono ?_
      rintro e w9 ⟨rfl, hb9⟩
      have HBL9 := Lib.hid (HBL8.out.trans (hb9.mono HBL8.out.size))
      clear hb9 q0 q1 q2 q3
      go_wp2_with fail
      refine (awake33 _).mono ?_
      rintro e wz ⟨rfl, hbz⟩
      have HBZ := Lib.hid (HBL9.out.trans (hbz.mono HBL9.out.size))
      clear hbz
      go_wp2_with fail
      go_ret
      exact ⟨rfl, HBZ.out⟩
    · have hc := HC.out 3 _ rfl
      have hz := HZ.out (K * 6 + 3)
      have HO7 : Hid (OS w5 (w6.setCell ⟨g, K * 6 + 3, none⟩ (.int .i64 (n3.tmod ((ps.length : Int) + 1)))) g cap (ps.set K ({ p.1 with p := (n3.tmod ((ps.length : Int) + 1)) }, p.2))) := Lib.hid (HO6.out.set_ (k := 3) HPK.out (by omega) rfl (by obtain ⟨o1, o2, o3, o4, o5⟩ := HPO.out; have := HML.out; refine ⟨?_, ?_, ?_, ?_, ?_⟩ <;> first | assumption | (constructor <;> simp only <;> omega)) (fun r hr => by rcases List.mem_cons.1 hr with rfl | hr; exact HX6.out p (List.mem_of_getElem? HPK.out); exact HX6.out r hr))
      go_upto_region 22 with fail
      generalize w6.setCell ⟨g, K * 6 + 3, none⟩ (.int .i64 (n3.tmod ((ps.length : Int) + 1))) = w7 at *
      clear hc hz
      generalize hps : ps.set K ({ p.1 with p := (n3.tmod ((ps.length : Int) + 1)) }, p.2) = ps2 at *
      have hpl2 : ps2.length = ps.length := by rw [← hps]; simp
      have HS7 : Hid (Stps w7 (.slice (some ⟨g, 0, none⟩) ps.length cap) (ps2.map (·.1))) := by
        have h := HO7.out.stps
        rw [hpl2] at h
        exact h
      have HAS : Hid (Asked f (ps2.map (·.1))) := Lib.hid (HSM.out.asked (by simp; omega) (fun s hs => by
        obtain ⟨r, hr, rfl⟩ := List.mem_map.1 hs
        rw [← hps] at hr
        rcases List.mem_or_eq_of_mem_set hr with hr | rfl
        · have := HL2.out r.1 (List.mem_map.2 ⟨r, hr, rfl⟩); omega
        · have := HPL.out; simp only; omega))
      clear hps hpl2
      have HBL7 := Lib.hid (HB5.out.trans (HO7.out.bl.mono HB5.out.size))
      have HF7 := Lib.hid (HF5.out.keep HO7.out.bl)
      have HBK7 := Lib.hid (HBK5.out.keep HO7.out.bl)
      have q0 := HBK7.out.cell 0
      have q1 := HBK7.out.cell 1
      have q2 := HBK7.out.cell 2
      have q3 := HBK7.out.cell 3
      simp only [List.getElem?_toArray, List.getElem?_cons_zero, List.getElem?_cons_succ] at q0 q1 q2 q3
      go_wp2_with fail
      refine (pcheck_any _ _ f (ps2.map (·.1)) _ HF7.out HS7.out HAS.out).mono ?_
      rintro e w8 ⟨rfl, hb8⟩
      have HBL8 := Lib.hid (HBL7.out.trans (hb8.mono HBL7.out.size))
      have HF8 := Lib.hid (HF7.out.keep hb8)
      have HBK8 := Lib.hid (HBK7.out.keep hb8)
      have HS8 := Lib.hid ((HS7.out).keep hb8)
      clear hb8 q0 q1 q2 q3
      have q0 := HBK8.out.cell 0
      have q1 := HBK8.out.cell 1
      have q2 := HBK8.out.cell 2
      have q3 := HBK8.out.cell 3
      simp only [List.getElem?_toArray, List.getElem?_cons_zero, List.getElem?_cons_succ] at q0 q1 q2 q3
      go_wp2_with fail
      refine (rcheck_any _ _ f (ps2.map (·.1)) _ HF8.out HS8.out HAS.out).mono ?_
      rintro e w9 ⟨rfl, hb9⟩
      have HBL9 := Lib.hid (HBL8.out.trans (hb9.mono HBL8.out.size))
      clear hb9 q0 q1 q2 q3
      go_wp2_with fail
      refine (awake33 _).mono ?_
      rintro e wz ⟨rfl, hbz⟩
      have HBZ := Lib.hid (HBL9.out.trans (hbz.mono HBL9.out.size))
      clear hbz
      go_wp2_with fail
      go_ret
      exact ⟨rfl, HBZ.out⟩
    · have hc := HC.out 4 _ rfl
      have hz := HZ.out (K * 6 + 4)
      have HO7 : Hid (OS w5 (w6.setCell ⟨g, K * 6 + 4, none⟩ (.int .i64 (n3.tmod ((ps.length : Int) + 1)))) g cap (ps.set K ({ p.1 with q := (n3.tmod ((ps.length : Int) + 1)) }, p.2))) := Lib.hid (HO6.out.set_ (k := 4) HPK.out (by omega) rfl (by obtain ⟨o1, o2, o3, o4, o5⟩ := HPO.out; have := HML.out; refine ⟨?_, ?_, ?_, ?_, ?_⟩ <;> first | assumption | (constructor <;> simp only <;> omega)) (fun r hr => by rcases List.mem_cons.1 hr with rfl | hr; exact HX6.out p (List.mem_of_getElem? HPK.out); exact HX6.out r hr))
      go_upto_region 22 with fail
      generalize w6.setCell ⟨g, K * 6 + 4, none⟩ (.int .i64 (n3.tmod ((ps.length : Int) + 1))) = w7 at *
      clear hc hz
      generalize hps : ps.set K ({ p.1 with q := (n3.tmod ((ps.length : Int) + 1)) }, p.2) = ps2 at *
      have hpl2 : ps2.length = ps.length := by rw [← hps]; simp
      have HS7 : Hid (Stps w7 (.slice (some ⟨g, 0, none⟩) ps.length cap) (ps2.map (·.1))) := by
        have h := HO7.out.stps
        rw [hpl2] at h
        exact h
      have HAS : Hid (Asked f (ps2.map (·.1))) := Lib.hid (HSM.out.asked (by simp; omega) (fun s hs => by
        obtain ⟨r, hr, rfl⟩ := List.mem_map.1 hs
        rw [← hps] at hr
        rcases List.mem_or_eq_of_mem_set hr with hr | rfl
        · have := HL2.out r.1 (List.mem_map.2 ⟨r, hr, rfl⟩); omega
        · have := HPL.out; simp only; omega))
      clear hps hpl2
      have HBL7 := Lib.hid (HB5.out.trans (HO7.out.bl.mono HB5.out.size))
      have HF7 := Lib.hid (HF5.out.keep HO7.out.bl)
      have HBK7 := Lib.hid (HBK5.out.keep HO7.out.bl)
      have q0 := HBK7.out.cell 0
      have q1 := HBK7.out.cell 1
      have q2 := HBK7.out.cell 2
      have q3 := HBK7.out.cell 3
      simp only [List.getElem?_toArray, List.getElem?_cons_zero, List.getElem?_cons_succ] at q0 q1 q2 q3
      go_wp2_with fail
      refine (pcheck_any _ _ f (ps2.map (·.1)) _ HF7.out HS7.out HAS.out).mono ?_
      rintro e w8 ⟨rfl, hb8⟩
      have HBL8 := Lib.hid (HBL7.out.trans (hb8.mono HBL7.out.size))
      have HF8 := Lib.hid (HF7.out.keep hb8)
      have HBK8 := Lib.hid (HBK7.out.keep hb8)
      have HS8 := Lib.hid ((HS7.out).keep hb8)
      clear hb8 q0 q1 q2 q3
      have q0 := HBK8.out.cell 0
      have q1 := HBK8.out.cell 1
      have q2 := HBK8.out.cell 2
      have q3 := HBK8.out.cell 3
      simp only [List.getElem?_toArray, List.getElem?_cons_zero, List.getElem?_cons_succ] at q0 q1 q2 q3
      go_wp2_with fail
      refine (rcheck_any _ _ f (ps2.map (·.1)) _ HF8.out HS8.out HAS.out).mono ?_
      rintro e w9 ⟨rfl, hb9⟩
      have HBL9 := Lib.hid (HBL8.out.trans (hb9.mono HBL8.out.size))
      clear hb9 q0 q1 q2 q3
      go_wp2_with fail
      refine (awake33 _).mono ?_
      rintro e wz ⟨rfl, hbz⟩
      have HBZ := Lib.hid (HBL9.out.trans (hbz.mono HBL9.out.size))
      clear hbz
      go_wp2_with fail
      go_ret
      exact ⟨rfl, HBZ.out⟩
    · have hc := HC.out 5 _ rfl
      have hz := HZ.out (K * 6 + 5)
      have HO7 : Hid (OS w5 (w6.setCell ⟨g, K * 6 + 5, none⟩ (.int .i64 (n3.tmod 20))) g cap (ps.set K ({ p.1 with var := (n3.tmod 20) }, p.2))) := Lib.hid (HO6.out.set_ (k := 5) HPK.out (by omega) rfl (by obtain ⟨o1, o2, o3, o4, o5⟩ := HPO.out; have := HM20.out; refine ⟨?_, ?_, ?_, ?_, ?_⟩ <;> first | assumption | (constructor <;> simp only <;> omega)) (fun r hr => by rcases List.mem_cons.1 hr with rfl | hr; exact HX6.out p (List.mem_of_getElem? HPK.out); exact HX6.out r hr))
      go_upto_region 22 with fail
      generalize w6.setCell ⟨g, K * 6 + 5, none⟩ (.int .i64 (n3.tmod 20)) = w7 at *
      clear hc hz
      generalize hps : ps.set K ({ p.1 with var := (n3.tmod 20) }, p.2) = ps2 at *
      have hpl2 : ps2.length = ps.length := by rw [← hps]; simp
      have HS7 : Hid (Stps w7 (.slice (some ⟨g, 0, none⟩) ps.length cap) (ps2.map (·.1))) := by
        have h := HO7.out.stps
        rw [hpl2] at h
        exact h
      have HAS : Hid (Asked f (ps2.map (·.1))) := Lib.hid (HSM.out.asked (by simp; omega) (fun s hs => by
        obtain ⟨r, hr, rfl⟩ := List.mem_map.1 hs
        rw [← hps] at hr
        rcases List.mem_or_eq_of_mem_set hr with hr | rfl
        · have := HL2.out r.1 (List.mem_map.2 ⟨r, hr, rfl⟩); omega
        · have := HPL.out; simp only; omega))
      clear hps hpl2
      have HBL7 := Lib.hid (HB5.out.trans (HO7.out.bl.mono HB5.out.size))
      have HF7 := Lib.hid (HF5.out.keep HO7.out.bl)
      have HBK7 := Lib.hid (HBK5.out.keep HO7.out.bl)
      have q0 := HBK7.out.cell 0
      have q1 := HBK7.out.cell 1
      have q2 := HBK7.out.cell 2
      have q3 := HBK7.out.cell 3
      simp only [List.getElem?_toArray, List.getElem?_cons_zero, List.getElem?_cons_succ] at q0 q1 q2 q3
      go_wp2_with fail
      refine (pcheck_any _ _ f (ps2.map (·.1)) _ HF7.out HS7.out HAS.out).mono ?_
      rintro e w8 ⟨rfl, hb8⟩
      have HBL8 := Lib.hid (HBL7.out.trans (hb8.mono HBL7.out.size))
      have HF8 := Lib.hid (HF7.out.keep hb8)
      have HBK8 := Lib.hid (HBK7.out.keep hb8)
      have HS8 := Lib.hid ((HS7.out).keep hb8)
      clear hb8 q0 q1 q2 q3
      have q0 := HBK8.out.cell 0
      have q1 := HBK8.out.cell 1
      have q2 := HBK8.out.cell 2
      have q3 := HBK8.out.cell 3
      simp only [List.getElem?_toArray, List.getElem?_cons_zero, List.getElem?_cons_succ] at q0 q1 q2 q3
      go_wp2_with fail
      refine (rcheck_any _ _ f (ps2.map (·.1)) _ HF8.out HS8.out HAS.out).mono ?_
      rintro e w9 ⟨rfl, hb9⟩
      have HBL9 := Lib.hid (HBL8.out.trans (hb9.mono HBL8.out.size))
      clear hb9 q0 q1 q2 q3
      go_wp2_with fail
      refine (awake33 _).mono ?_
      rintro e wz ⟨rfl, hbz⟩
      have HBZ := Lib.hid (HBL9.out.trans (hbz.mono HBL9.out.size))
      clear hbz
      go_wp2_with fail
      go_ret
      exact ⟨rfl, HBZ.out⟩
    · obtain ⟨Ap, cpp, ep, el1, el2, el3, el4⟩ := (HO6.out.i p (List.mem_of_getElem? HPK.out)).1
      have hc := HC.out 2 p.2 rfl
      rw [ep] at hc
      have hpl2 := HPL.out
      obtain ⟨iI, hiI, hzI0, hzI1, hzI2⟩ := info_parts info_int
      unfold maxLen at el2
      have HR7 := Lib.hid el4
      have HEP := Lib.hid ep
      have HE3 := Lib.hid el3
      have HLN2 : Hid ((p.1.lits.map (Value.int .i64)).length = p.1.lits.length * 1) := Lib.hid (by simp)
      have HON2 : Hid (∀ u ∈ p.1.lits.map (Value.int .i64), u.oneCell' = true) := Lib.hid (fun u hu => by obtain ⟨x, _, rfl⟩ := List.mem_map.1 hu; rfl)
      have H632 : Hid (0 + p.1.lits.length ≤ maxLen) := by refine Lib.hid ?_; unfold maxLen; omega
      have HBY2 : Hid ((0 + p.1.lits.length) * 8 ≤ 140737488355328) := by refine Lib.hid ?_; omega
      clear ep el3 el4
      go_wp2_with (at_builtin; refine wpList_append_rd _ rfl _ _ 43 rfl w6.heap.size 3 iI (.int .i64 0) 1 8 Try.underlying43 hiI hzI0 hzI1 hzI2 rfl (by decide) (.slice none 0 0) 0 [] rfl (World.ownsRow_nil _ _ _ _) Ap p.1.lits.length cpp (p.1.lits.map (Value.int .i64)) rfl HLN2.out HR7.out HON2.out H632.out HBY2.out (Nat.le_refl _) ?_)
      intro v7 w7 hown hgrow _
      have HO7 : Hid (Own w7 w6.heap.size v7 p.1.lits) := ⟨by simpa using hown, HE3.out⟩
      have hb7 : Below w6.heap.size w6 w7 := grownBy_below hgrow (Nat.le_refl _) (fun k e => by cases e)
      have HB67 := Lib.hid hb7
      have hs7 := hb7.size
      obtain ⟨A7, c7, e7, -, -, -⟩ := owns_rd HO7.out.1
      subst e7
      have HO1 : Hid (∀ u ∈ ([.int .i64 (n3.tmod 20)] : List Value), u.oneCell' = true) := by
        refine Lib.hid ?_
        intro u hu; simp at hu; subst hu; rfl
      have H633 : Hid (p.1.lits.length + 1 ≤ maxLen) := by refine Lib.hid ?_; unfold maxLen; omega
      have HBY3 : Hid ((p.1.lits.length + 1) * 8 ≤ 140737488355328) := by refine Lib.hid ?_; omega
      have HBA : Hid (w6.heap.size ≤ (w7.alloc (.cells #[.int .i64 (n3.tmod 20)] 3)).heap.size) := by refine Lib.hid ?_; simp; omega
      clear hown hgrow hb7 hc
      go_wp2_with (at_builtin; refine wpList_append_own_at _ rfl _ _ 43 rfl w6.heap.size 3 iI (.int .i64 0) 1 8 Try.underlying43 hiI hzI0 hzI1 hzI2 rfl (by decide) _ _ _ rfl (HO7.out.1.alloc _) ⟨w7.heap.size, 0, none⟩ 1 1 [.int .i64 (n3.tmod 20)] rfl rfl (one_at w7 _ _) HO1.out H633.out HBY3.out HBA.out ?_)
      intro v8 w8 hown hgrow _ _
      have HO8 : Hid (Own w8 w6.heap.size v8 (p.1.lits ++ [n3.tmod 20])) := by
        refine Lib.hid ⟨by simpa using hown, fun z hz => ?_⟩
        rcases List.mem_append.1 hz with hz | hz
        · exact HO7.out.2 z hz
        · rw [List.mem_singleton] at hz; subst hz; have := HM20.out; constructor <;> omega
      have HB68 : Hid (Below w6.heap.size w6 w8) := (HB67.out.alloc HB67.out.size _).grown hgrow (by simp; omega) fun g e => (HO7.out.1.lt g e).1
      obtain ⟨A8, c8, e8, -, -, -⟩ := owns_rd hown
      subst e8
      clear hown hgrow HO1 H633 HBY3 HBA HLN2 HON2 H632 HBY2
      have HO68 := Lib.hid (HO6.out.keep HB68.out)
      have hgl := HO6.out.lo
      have hc : w8.cell? ⟨g, K * 6 + 2, none⟩ = some (.slice Ap p.1.lits.length cpp) := by
        rw [HO68.out.o.cellAt (K * 6 + 2) (by omega), ← HEP.out]
        exact cells_get HPK.out rfl
      have hz := HO68.out.o.frozenAt (K * 6 + 2)
      have HO9 : Hid (OS w5 (w8.setCell ⟨g, K * 6 + 2, none⟩ (.slice A8 (p.1.lits.length + 1) c8)) g cap (ps.set K ({ p.1 with lits := p.1.lits ++ [n3.tmod 20] }, .slice A8 (p.1.lits.length + 1) c8))) := Lib.hid (HO68.out.set_ (k := 2) HPK.out (by omega) rfl HPO.out (fun r hr => by
        rcases List.mem_cons.1 hr with rfl | hr
        · exact HO8.out.intsO fun b h1 _ _ => by omega
        · exact (HX6.out r hr).keep HB68.out))
      go_upto_region 22 with fail
      generalize w8.setCell ⟨g, K * 6 + 2, none⟩ (.slice A8 (p.1.lits.length + 1) c8) = w9 at *
      clear hc hz
      generalize hps : ps.set K ({ p.1 with lits := p.1.lits ++ [n3.tmod 20] }, .slice A8 (p.1.lits.length + 1) c8) = ps2 at *
      have hpl3 : ps2.length = ps.length := by rw [← hps]; simp
      have HS7 : Hid (Stps w9 (.slice (some ⟨g, 0, none⟩) ps.length cap) (ps2.map (·.1))) := by
        have h := HO9.out.stps
        rw [hpl3] at h
        exact h
      have HAS : Hid (Asked f (ps2.map (·.1))) := Lib.hid (HSM.out.asked (by simp; omega) (fun s hs => by
        obtain ⟨r, hr, rfl⟩ := List.mem_map.1 hs
        rw [← hps] at hr
        rcases List.mem_or_eq_of_mem_set hr with hr | rfl
        · have := HL2.out r.1 (List.mem_map.2 ⟨r, hr, rfl⟩); omega
        · simp; omega))
      clear hps hpl3
      have HBL7 := Lib.hid (HB5.out.trans (HO9.out.bl.mono HB5.out.size))
      have HF7 := Lib.hid (HF5.out.keep HO9.out.bl)
      have HBK7 := Lib.hid (HBK5.out.keep HO9.out.bl)
      have q0 := HBK7.out.cell 0
      have q1 := HBK7.out.cell 1
      have q2 := HBK7.out.cell 2
      have q3 := HBK7.out.cell 3
      simp only [List.getElem?_toArray, List.getElem?_cons_zero, List.getElem?_cons_succ] at q0 q1 q2 q3
      go_wp2_with fail
      refine (pcheck_any _ _ f (ps2.map (·.1)) _ HF7.out HS7.out HAS.out).mono ?_
      rintro e w8 ⟨rfl, hb8⟩
      have HBL8 := Lib.hid (HBL7.out.trans (hb8.mono HBL7.out.size))
      have HF8 := Lib.hid (HF7.out.keep hb8)
      have HBK8 := Lib.hid (HBK7.out.keep hb8)
      have HS8 := Lib.hid ((HS7.out).keep hb8)
      clear hb8 q0 q1 q2 q3
      have q0 := HBK8.out.cell 0
      have q1 := HBK8.out.cell 1
      have q2 := HBK8.out.cell 2
      have q3 := HBK8.out.cell 3
      simp only [List.getElem?_toArray, List.getElem?_cons_zero, List.getElem?_cons_succ] at q0 q1 q2 q3
      go_wp2_with fail
      refine (rcheck_any _ _ f (ps2.map (·.1)) _ HF8.out HS8.out HAS.out).mono ?_
      rintro e w9 ⟨rfl, hb9⟩
      have HBL9 := Lib.hid (HBL8.out.trans (hb9.mono HBL8.out.size))
      clear hb9 q0 q1 q2 q3
      go_wp2_with fail
      refine (awake33 _).mono ?_
      rintro e wz ⟨rfl, hbz⟩
      have HBZ := Lib.hid (HBL9.out.trans (hbz.mono HBL9.out.size))
      clear hbz
      go_wp2_with fail
      go_ret
      exact ⟨rfl, HBZ.out⟩
    · have HS7 : Hid (Stps w6 (.slice (some ⟨g, 0, none⟩) K cap) ((ps.map (·.1)).take K)) := Lib.hid (HO6.out.stps.take (by omega))
      have HAS : Hid (Asked f ((ps.map (·.1)).take K)) := Lib.hid (HSM.out.asked (by rw [List.length_take]; simp; omega) (fun s hs => by have := HL2.out s (List.mem_of_mem_take hs); omega))
      have k0 : (0 : Int) ≤ (K : Int) := by omega
      have k1 : (K : Int) ≤ (cap : Int) := by omega
      go_upto_region 22 with fail
      have HBL7 := Lib.hid (HB5.out.trans (HO6.out.bl.mono HB5.out.size))
      have HF7 := Lib.hid (HF5.out.keep HO6.out.bl)
      have HBK7 := Lib.hid (HBK5.out.keep HO6.out.bl)
      have q0 := HBK7.out.cell 0
      have q1 := HBK7.out.cell 1
      have q2 := HBK7.out.cell 2
      have q3 := HBK7.out.cell 3
      simp only [List.getElem?_toArray, List.getElem?_cons_zero, List.getElem?_cons_succ] at q0 q1 q2 q3
      go_wp2_with fail
      refine (pcheck_any _ _ f ((ps.map (·.1)).take K) _ HF7.out HS7.out HAS.out).mono ?_
      rintro e w8 ⟨rfl, hb8⟩
      have HBL8 := Lib.hid (HBL7.out.trans (hb8.mono HBL7.out.size))
      have HF8 := Lib.hid (HF7.out.keep hb8)
      have HBK8 := Lib.hid (HBK7.out.keep hb8)
      have HS8 := Lib.hid ((HS7.out).keep hb8)
      clear hb8 q0 q1 q2 q3
      have q0 := HBK8.out.cell 0
      have q1 := HBK8.out.cell 1
      have q2 := HBK8.out.cell 2
      have q3 := HBK8.out.cell 3
      simp only [List.getElem?_toArray, List.getElem?_cons_zero, List.getElem?_cons_succ] at q0 q1 q2 q3
      go_wp2_with fail
      refine (rcheck_any _ _ f ((ps.map (·.1)).take K) _ HF8.out HS8.out HAS.out).mono ?_
      rintro e w9 ⟨rfl, hb9⟩
      have HBL9 := Lib.hid (HBL8.out.trans (hb9.mono HBL8.out.size))
      clear hb9 q0 q1 q2 q3
      go_wp2_with fail
      refine (awake33 _).mono ?_
      rintro e wz ⟨rfl, hbz⟩
      have HBZ := Lib.hid (HBL9.out.trans (hbz.mono HBL9.out.size))
      clear hbz
      go_wp2_with fail
      go_ret
      exact ⟨rfl, HBZ.out⟩
    · have HS7 : Hid (Stps w6 (.slice (some ⟨g, 0, none⟩) ps.length cap) (ps.map (·.1))) := Lib.hid HO6.out.stps
      have HAS : Hid (Asked f (ps.map (·.1))) := Lib.hid (HSM.out.asked (by simp; omega) (fun s hs => by have := HL2.out s hs; omega))
      go_upto_region 22 with fail
      have HBL7 := Lib.hid (HB5.out.trans (HO6.out.bl.mono HB5.out.size))
      have HF7 := Lib.hid (HF5.out.keep HO6.out.bl)
      have HBK7 := Lib.hid (HBK5.out.keep HO6.out.bl)
      have q0 := HBK7.out.cell 0
      have q1 := HBK7.out.cell 1
      have q2 := HBK7.out.cell 2
      have q3 := HBK7.out.cell 3
      simp only [List.getElem?_toArray, List.getElem?_cons_zero, List.getElem?_cons_succ] at q0 q1 q2 q3
      go_wp2_with fail
      refine (pcheck_any _ _ f (ps.map (·.1)) _ HF7.out HS7.out HAS.out).mono ?_
      rintro e w8 ⟨rfl, hb8⟩
      have HBL8 := Lib.hid (HBL7.out.trans (hb8.mono HBL7.out.size))
      have HF8 := Lib.hid (HF7.out.keep hb8)
      have HBK8 := Lib.hid (HBK7.out.keep hb8)
      have HS8 := Lib.hid ((HS7.out).keep hb8)
      clear hb8 q0 q1 q2 q3
      have q0 := HBK8.out.cell 0
      have q1 := HBK8.out.cell 1
      have q2 := HBK8.out.cell 2
      have q3 := HBK8.out.cell 3
      simp only [List.getElem?_toArray, List.getElem?_cons_zero, List.getElem?_cons_succ] at q0 q1 q2 q3
      go_wp2_with fail
      refine (rcheck_any _ _ f (ps.map (·.1)) _ HF8.out HS8.out HAS.out).mono ?_
      rintro e w9 ⟨rfl, hb9⟩
      have HBL9 := Lib.hid (HBL8.out.trans (hb9.mono HBL8.out.size))
      clear hb9 q0 q1 q2 q3
      go_wp2_with fail
      refine (awake33 _).mono ?_
      rintro e wz ⟨rfl, hbz⟩
      have HBZ := Lib.hid (HBL9.out.trans (hbz.mono HBL9.out.size))
      clear hbz
      go_wp2_with fail
      go_ret
      exact ⟨rfl, HBZ.out⟩
  · have HB4 := Lib.hid (HB3.out.trans (hb4.mono HB3.out.size))
    have HB5 : Hid (Below w.heap.size w (w4.alloc (.cells #[bv, iv] 45))) := Lib.hid (HB4.out.alloc HB4.out.size _)
    obtain ⟨Ab, cb, rfl, -, -, -⟩ := hB
    obtain ⟨Ai, ci, rfl, -, -, -, -⟩ := hX
    clear hb4 hfit hcls hxb hbl hxl
    go_wp2_with fail
    refine (awake33 _).mono ?_
    rintro e wz ⟨rfl, hbz⟩
    have HBZ := Lib.hid (HB5.out.trans (hbz.mono HB5.out.size))
    clear hbz
    go_wp2_with fail
    go_ret
    exact ⟨rfl, HBZ.out⟩
end Go.Proofs.Ytdmndikenejhiaa
