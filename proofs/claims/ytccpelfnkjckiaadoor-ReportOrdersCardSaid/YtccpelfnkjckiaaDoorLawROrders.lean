/-
  WALK: interleavelaw39.ReportOrders.
-/
import Derived.Test.YtccpelfnkjckiaaDoorFndRow
import Derived.Test.YtccpelfnkjckiaaDoorRepDesc
import Derived.Test.YtccpelfnkjckiaaDoorRepGrpR
import Derived.Test.YtccpelfnkjckiaaDoorRepSame
import Derived.Deep.RegionHeld3
namespace Go.Proofs.YtccpelfnkjckiaaDoor
open Go.RowKit

/-- The report q' with the best finding of q. -/
def mixQ (q q' : Rep × Value × Value) : Rep × Value × Value := ({ q'.1 with best := q.1.best }, q'.2)
/-- The reports qs', the first i with the best findings of qs. -/
def mixB (qs qs' : List (Rep × Value × Value)) (i : Nat) : List (Rep × Value × Value) := (List.zipWith mixQ qs qs').take i ++ qs'.drop i
theorem mixB_zero (qs qs' : List (Rep × Value × Value)) : mixB qs qs' 0 = qs' := by simp [mixB]
theorem mixB_len {qs qs' : List (Rep × Value × Value)} {i : Nat} (hl : qs'.length = qs.length) (hi : i ≤ qs.length) : (mixB qs qs' i).length = qs.length := by
  unfold mixB; rw [List.length_append, List.length_take, List.length_zipWith, List.length_drop]; omega
theorem mixB_at {qs qs' : List (Rep × Value × Value)} {i : Nat} {q' : Rep × Value × Value} (hl : qs'.length = qs.length) (hi : i < qs.length) (hq : qs'[i]? = some q') : (mixB qs qs' i)[i]? = some q' := by
  unfold mixB
  rw [List.getElem?_append_right (by rw [List.length_take, List.length_zipWith]; omega), List.length_take, List.length_zipWith, List.getElem?_drop]
  rw [show i + (i - min i (min qs.length qs'.length)) = i by omega]; exact hq
theorem mixB_succ {qs qs' : List (Rep × Value × Value)} {i : Nat} {q q' : Rep × Value × Value} (hl : qs'.length = qs.length) (h1 : qs[i]? = some q) (h2 : qs'[i]? = some q') : (mixB qs qs' i).set i (mixQ q q') = mixB qs qs' (i + 1) := by
  obtain ⟨hi, e1⟩ := List.getElem?_eq_some_iff.1 h1
  obtain ⟨hi', e2⟩ := List.getElem?_eq_some_iff.1 h2
  have hz : (List.zipWith mixQ qs qs')[i]? = some (mixQ q q') := by rw [List.getElem?_zipWith, h1, h2]
  unfold mixB
  rw [List.set_append_right _ _ (by rw [List.length_take, List.length_zipWith]; omega), List.length_take, List.length_zipWith, show i - min i (min qs.length qs'.length) = 0 by omega, List.drop_eq_getElem_cons hi', List.set_cons_zero, take_succ_of hz]
  simp
theorem mixB_end {qs qs' : List (Rep × Value × Value)} (h : (qs.map (·.1)).map Rep.noBest = (qs'.map (·.1)).map Rep.noBest) : (mixB qs qs' qs.length).map (·.1) = qs.map (·.1) := by
  have hl : qs.length = qs'.length := by have := congrArg List.length h; simpa using this
  unfold mixB
  rw [List.drop_of_length_le (by omega), List.append_nil, List.take_of_length_le (by rw [List.length_zipWith]; omega)]
  clear hl
  induction qs generalizing qs' with
  | nil => simp
  | cons a t ih =>
    cases qs' with
    | nil => simp at h
    | cons b s =>
      simp only [List.map_cons, List.cons.injEq] at h
      rw [List.zipWith_cons_cons, List.map_cons, List.map_cons, ih h.2]
      congr 1
      have e := h.1
      unfold Rep.noBest at e
      unfold mixQ
      cases ha : a.1
      cases hb : b.1
      rw [ha, hb] at e
      simp only [Rep.mk.injEq] at e ⊢
      exact ⟨e.1.symm, e.2.1.symm, e.2.2.1.symm, e.2.2.2.1.symm, trivial, e.2.2.2.2.2.symm⟩
theorem fnd_ones (ps : List (Fnd × FndM)) : ∀ u ∈ ps.flatMap Fnd.cells, u.oneCell' = true := by
  intro u hu
  obtain ⟨q, _, hu⟩ := List.mem_flatMap.1 hu
  simp [Fnd.cells] at hu
  rcases hu with rfl | rfl | rfl | rfl | rfl | rfl | rfl | rfl | rfl | rfl | rfl | rfl <;> rfl
theorem fnd_len (ps : List (Fnd × FndM)) : (ps.flatMap Fnd.cells).length = ps.length * 12 := by
  induction ps with
  | nil => rfl
  | cons a t ih => rw [List.flatMap_cons, List.length_append, ih, show (Fnd.cells a).length = 12 from rfl, List.length_cons]; omega
theorem cut_fromF (A : Option Addr) (n c k : Nat) (hk : k ≤ n) (hn : n ≤ c) :
    ∃ dp, (∀ w, (Instr.slice 45 (.slice A n c) (some (.int .i64 (k : Int))) none none).run Tryd.prog w = .ok (.slice dp (n - k) (c - k)) w) ∧ (k < n → dp = A.map fun a => a.add (k * 12)) := by
  refine ⟨if c = k then A else A.map (fun a => a.add (k * 12)), fun w => ?_, fun h => by rw [if_neg (by omega)]⟩
  rw [run_slice_l (P := Tryd.prog) (w := w) 45 _ n c (by kernel_rfl) .i64 (k : Int) (by omega) (by omega), show (sizeOf (Tryd.prog.elem 45)).run Tryd.prog w = .ok 12 w by kernel_rfl]
  simp only [Result.andThen, sliced, Int.toNat_natCast]
theorem cut_toF (A : Option Addr) (n c k : Nat) (hk : k ≤ c) (w : World) : (Instr.slice 45 (.slice A n c) none (some (.int .i64 (k : Int))) none).run Tryd.prog w = .ok (.slice A k c) w := by
  rw [run_slice_h (P := Tryd.prog) (w := w) 45 _ n c (by kernel_rfl) .i64 (k : Int) (by omega) (by omega), show (sizeOf (Tryd.prog.elem 45)).run Tryd.prog w = .ok 12 w by kernel_rfl]
  cases A <;> simp only [Result.andThen, sliced, Int.toNat_natCast, Nat.zero_mul, Option.map_some, Option.map_none, addr_zero, Nat.sub_zero, ite_self]
theorem rot_perm {α : Type} (l : List α) (k : Nat) : l.Perm (l.drop k ++ l.take k) := by
  have h := List.perm_append_comm (l₁ := l.take k) (l₂ := l.drop k)
  rwa [List.take_append_drop] at h

set_option maxRecDepth 100000 in
set_option maxHeartbeats 8000000 in
theorem lawROrders (v : Value) (fs : List (FIn × (Option Addr × Nat))) (x : Nat) (w : World) (h : FIns w v fs) (hx : x < 256) (hT : Tab w) (hW : WordsAt w) :
    Calls Tryd.prog 11 #[v, .int .u8 x] w fun e w' => e = .returned (.bool true) ∧ Below w.heap.size w w' := by
  have HAW := Lib.hid (awake39_from hT hW)
  have HFI := Lib.hid h
  obtain ⟨iF, zF, hiF, hzF0, hzF1, hzF2, hzF3⟩ := info_fnd
  clear hT hW h
  go_enter Tryd.func11, Tryd.ntmps11
  go_wp2_with fail
  refine (findings_any v fs w HFI.out).mono ?_
  rintro e w1 ⟨fv, ps, rfl, hown, hl, hb1⟩
  obtain ⟨A, c, rfl, h1, h2, hr, hok, hs⟩ := hown.fnds
  have HB1 := Lib.hid hb1
  have HR := Lib.hid hr
  have HOK := Lib.hid hok
  have HPL : Hid (ps.length ≤ 1000000 ∧ ∀ q ∈ ps, q.1.sites.length ≤ 1000000) := Lib.hid ⟨by omega, fun q hq => by have := hs q hq; omega⟩
  have HP4 : Hid (∀ q ∈ ps, q.1.sites.length ≤ 4) := Lib.hid hs
  unfold maxLen at h2
  clear hb1 hr hok hs hown
  by_cases hn : ps.length = 0
  · have l0 : ((ps.length : Int) == 0) = true := by rw [hn]; rfl
    have HN := Lib.hid hn
    clear hn
    go_wp2_with fail
    refine (group_any ps A c w1 HR.out HOK.out HPL.out.1 HPL.out.2).mono ?_
    rintro e w2 ⟨v, qs, rfl, hown, hrep, hb2⟩
    obtain ⟨Aq, cq, rfl, -, -, -⟩ := owns_rd hown.1
    have hq0 : qs.length = 0 := by
      have := (reports_small hrep HP4.out).1
      rw [List.length_map, HN.out] at this
      omega
    have l1 : ((qs.length : Int) == 0) = true := by rw [hq0]; rfl
    have HB2 : Hid (Below w.heap.size w w2) := Lib.hid (HB1.out.trans (hb2.mono HB1.out.size))
    clear hown hrep hb2 hq0
    go_wp2_with fail
    refine (HAW.out _ HB2.out).mono ?_
    rintro e w' ⟨rfl, hb⟩
    have HB := Lib.hid hb
    clear hb
    go_wp2_with fail
    go_ret
    exact ⟨rfl, HB.out⟩
  · have hn1 : 1 ≤ ps.length := by omega
    have l0 : ((ps.length : Int) == 0) = false := by rw [beq_eq_false_iff_ne]; omega
    obtain ⟨k, hk⟩ : ∃ k : Nat, k = x % ps.length := ⟨_, rfl⟩
    have hkl : k < ps.length := by rw [hk]; exact Nat.mod_lt _ (by omega)
    have hkc : ((x : Int) % (ps.length : Int)) = (k : Int) := by rw [hk]; simp
    obtain ⟨dp, hdp, hda⟩ := cut_fromF A ps.length c k (by omega) h1
    have ct1 : ∀ w, (Instr.slice 45 (.slice A ps.length c) (some (.int .i64 ((x : Int) % (ps.length : Int)))) none none).run Tryd.prog w = .ok (.slice dp (ps.length - k) (c - k)) w := fun w => by rw [hkc]; exact hdp w
    have ct2 : ∀ w, (Instr.slice 45 (.slice A ps.length c) none (some (.int .i64 ((x : Int) % (ps.length : Int)))) none).run Tryd.prog w = .ok (.slice A k c) w := fun w => by rw [hkc]; exact cut_toF A ps.length c k (by omega) w
    have HDA := Lib.hid hda
    clear hn hk hkc hdp hda
    go_wp2_with fail
    refine (group_any ps A c w1 HR.out HOK.out HPL.out.1 HPL.out.2).mono ?_
    rintro e w2 ⟨av, qs, rfl, hown, hrep, hb2⟩
    obtain ⟨Aq, cq, rfl, aq1, aq2, hrdq⟩ := owns_rd hown.1
    have HRQ := Lib.hid hrdq
    have HOWN := Lib.hid hown
    have HAD := Lib.hid (allDesc hrep)
    have HB2 := Lib.hid hb2
    have HB02 : Hid (Below w.heap.size w w2) := Lib.hid (HB1.out.trans (hb2.mono HB1.out.size))
    unfold maxLen at aq2
    clear hown hrep hb2 hrdq
    have HB12 : Hid (Below w1.heap.size w1 w2) := HB2
    have HLN1 : Hid (((ps.drop k).flatMap Fnd.cells).length = (ps.length - k) * 12) := Lib.hid (by rw [fnd_len, List.length_drop])
    have HLN2 : Hid (((ps.take k).flatMap Fnd.cells).length = k * 12) := Lib.hid (by rw [fnd_len, List.length_take]; congr 1; omega)
    have HON1 := Lib.hid (fnd_ones (ps.drop k))
    have HON2 := Lib.hid (fnd_ones (ps.take k))
    have HCK : Hid (ps.flatMap Fnd.cells = (ps.take k).flatMap Fnd.cells ++ (ps.drop k).flatMap Fnd.cells) := Lib.hid (by rw [← List.flatMap_append, List.take_append_drop])
    have HRS1 : Hid (Rd w2.drew dp ((ps.drop k).flatMap Fnd.cells)) := Lib.hid (by
      intro h0
      have hr := ((HR.out.keep HB12.out).keep (Below.refl _ _).drew : Rd w2.drew A _)
      obtain ⟨b, off, hA, hlt, hc⟩ := hr (by rw [HCK.out, List.length_append]; omega)
      refine ⟨b, off + k * 12, ?_, hlt, fun j u hu => ?_⟩
      · rw [HDA.out (by have := HLN1.out; omega), hA]; simp [Addr.add]
      · have h4 := hc (k * 12 + j) u (by rw [HCK.out, List.getElem?_append_right (by rw [HLN2.out]; omega), HLN2.out, Nat.add_sub_cancel_left]; exact hu)
        rwa [← Nat.add_assoc] at h4)
    have HRS2 : Hid (∀ w', Below w2.heap.size w2 w' → Rd w' A ((ps.take k).flatMap Fnd.cells)) := Lib.hid (fun w' hb => by
      intro h0
      have hr := ((HR.out.keep HB12.out).keep hb : Rd w' A _)
      obtain ⟨b, off, hA, hlt, hc⟩ := hr (by rw [HCK.out, List.length_append]; omega)
      exact ⟨b, off, hA, hlt, fun j u hu => hc j u (by rw [HCK.out, List.getElem?_append_left (List.getElem?_eq_some_iff.1 hu).1]; exact hu)⟩)
    have HM1 : Hid (0 + (ps.length - k) ≤ maxLen) := by refine Lib.hid ?_; have := HPL.out.1; unfold maxLen; omega
    have HM2 : Hid ((0 + (ps.length - k)) * 160 ≤ 140737488355328) := by refine Lib.hid ?_; have := HPL.out.1; omega
    have HM3 : Hid (ps.length - k + k ≤ maxLen) := by refine Lib.hid ?_; have := HPL.out.1; unfold maxLen; omega
    have HM4 : Hid ((ps.length - k + k) * 160 ≤ 140737488355328) := by refine Lib.hid ?_; have := HPL.out.1; omega
    obtain ⟨pr, hpr⟩ : ∃ pr, pr = ps.drop k ++ ps.take k := ⟨_, rfl⟩
    have HPR := Lib.hid hpr
    have HPN : Hid (pr.length = ps.length - k + k) := Lib.hid (by rw [hpr, List.length_append, List.length_drop, List.length_take]; omega)
    have HPR2 : Hid (pr.length ≤ 1000000 ∧ ∀ q ∈ pr, q.1.sites.length ≤ 1000000) := Lib.hid ⟨by rw [HPN.out]; have := HPL.out.1; omega, fun q hq => HPL.out.2 q ((rot_perm ps k).mem_iff.2 (by rw [← hpr]; exact hq))⟩
    have HOK2 : Hid (∀ w', Below w2.heap.size w2 w' → ∀ q ∈ pr, FndOk w' q) := Lib.hid (fun w' hb q hq => ((HOK.out q ((rot_perm ps k).mem_iff.2 (by rw [← hpr]; exact hq))).keep HB12.out).keep hb)
    clear hpr
    go_upto_region 6 with fail
    clear l0
    go_region_held3 (fun _ => True) (trivial) (first
      | (refine step_append_rdR rfl (.const (.slice none 0 0)) (.tmp 31) 45 rfl w2.heap.size 58 iF zF 12 160 Tryd.underlying45 hiF hzF0 hzF1 hzF2 hzF3 (by decide) (.slice none 0 0) 0 [] (by first | rfl | simp [Act.eval]) (World.ownsRow_nil _ _ _ _) dp (ps.length - k) (c - k) ((ps.drop k).flatMap Fnd.cells) (by first | rfl | simp [Act.eval]) HLN1.out HRS1.out HON1.out HM1.out HM2.out (Nat.le_refl _) ?_; intro v5 w5 hown hg hat; simp only [Nat.zero_add, List.nil_append] at hown; have HO5 := Lib.hid hown; have HB5 : Hid (Below w2.heap.size w2 w5) := Lib.hid (Below.trans (Below.refl _ _).drew ((Below.refl _ _).grown hg (Nat.le_refl _) fun k e => by cases e)); obtain ⟨A5, c5, hv5, -, -, -⟩ := owns_rd hown; subst hv5; have HZ5 : Hid (w2.heap.size ≤ w5.heap.size) := Lib.hid HB5.out.size; have HRS3 := Lib.hid (HRS2.out w5 HB5.out); clear hown hg hat)
      | (refine step_append_rdR rfl (.tmp 32) (.tmp 35) 45 rfl w2.heap.size 58 iF zF 12 160 Tryd.underlying45 hiF hzF0 hzF1 hzF2 hzF3 (by decide) (.slice A5 (ps.length - k) c5) (ps.length - k) ((ps.drop k).flatMap Fnd.cells) (by first | rfl | simp [Act.eval]) HO5.out A k c ((ps.take k).flatMap Fnd.cells) (by first | rfl | simp [Act.eval]) HLN2.out HRS3.out HON2.out HM3.out HM4.out HZ5.out ?_; intro v7 w7 hown hg hat; have HO7 := Lib.hid hown; have HB7 : Hid (Below w2.heap.size w2 w7) := Lib.hid (HB5.out.grown hg HZ5.out fun k e => (HO5.out.lt k e).1); obtain ⟨A7, c7, hv7, -, -, -⟩ := owns_rd hown; subst hv7; have HG7 : Hid (Calls Tryd.prog 21 #[.slice A7 (ps.length - k + k) c7] w7 (GrpRet w7 pr)) := Lib.hid (by rw [← HPN.out]; obtain ⟨A8, c8, e8, -, -, hr8⟩ := owns_rd HO7.out; injection e8 with e1 e2 e3; subst e1; exact group_any pr A7 c7 w7 (by rw [HPR.out, List.flatMap_append]; exact hr8) (HOK2.out w7 HB7.out) HPR2.out.1 HPR2.out.2); clear hown hg hat)
      | (go_at_call 21; (with_reducible refine HG7.out.mono ?_); rintro e w8 ⟨bv, qs', rfl, hown8, hrep8, hb8⟩))
    obtain ⟨Ab, cb, rfl, -, -, -⟩ := owns_rd hown8.1
    have heq : (qs.map (·.1)).map Rep.noBest = (qs'.map (·.1)).map Rep.noBest := reports_perm (fs := ps.map (·.1)) (gs := pr.map (·.1)) (by rw [HPR.out]; exact (rot_perm ps k).map _) HAD.out (allDesc hrep8)
    have hbl : qs'.length = qs.length := by have := congrArg List.length heq; simpa using this.symm
    have hrg : RG w7 w8 (.slice Ab qs'.length cb) qs' := ⟨hb8, hown8⟩
    rw [hbl] at hrg ⊢
    have HRG : Hid (RG w7 w8 (.slice Ab qs.length cb) (mixB qs qs' 0)) := Lib.hid (by rw [mixB_zero]; exact hrg)
    have HEQ := Lib.hid heq
    have HBL := Lib.hid hbl
    have HRL : Hid (qs.length ≤ 9223372036854775807) := Lib.hid (by omega)
    clear heq hbl hrg hown8 hrep8 hb8 ct1 ct2
    have l2 : ((qs.length : Int) != qs.length) = false := by simp
    have l3 := HRL.out
    go_wp2_with fail
    clear l2
    go_loopw [45] (fun iv wr => ∃ i : Nat, i ≤ qs.length ∧ iv = .int .i64 i ∧ Hid (RG w7 wr (.slice Ab qs.length cb) (mixB qs qs' i))) (fun iv _ => qs.length - (intOf iv).toNat)
    case atStart => exact ⟨0, by omega, rfl, HRG⟩
    case round =>
      clear HRG
      obtain ⟨i, hi, rfl, HRG⟩ := hrel
      have HB8 : Hid (Below w2.heap.size w2 wr) := Lib.hid (HB7.out.trans (HRG.out.bl.mono HB7.out.size))
      by_cases hil : i < qs.length
      · have li : (i : Int) < qs.length := by omega
        obtain ⟨q, hq⟩ : ∃ q, qs[i]? = some q := ⟨_, List.getElem?_eq_getElem hil⟩
        obtain ⟨q', hq'⟩ : ∃ q, qs'[i]? = some q := ⟨_, List.getElem?_eq_getElem (by have := HBL.out; omega)⟩
        obtain ⟨b, off, rfl, hbb, hci⟩ := Reps.at_ (HRQ.out.keep HB8.out) hq
        obtain ⟨-, -, -, -, k4, -⟩ := hci
        obtain ⟨g, cg, eg⟩ := owns_some (by rw [mixB_len HBL.out hi]; omega) HRG.out.out.1
        injection eg with eg1 eg2 eg3
        subst eg1
        have hml : qs.length = (mixB qs qs' i).length := (mixB_len HBL.out hi).symm
        have hmi := mixB_at HBL.out hil hq'
        obtain ⟨p1, p2, p3, p4, p5⟩ := HRG.out.at_ hml hmi
        have hfz : wr.frozen? ⟨g, i * 6 + 4, none⟩ = false := by have h := HRG.out.out.1; rw [← hml] at h; exact owns_frozen h _
        obtain ⟨-, -, -, -, m4, -⟩ := p2
        have hok : q.1.ok := (HOWN.out.2 q (List.mem_of_getElem? hq)).2.2
        have HRG2 : Hid (RG w7 (wr.setCell ⟨g, i * 6 + 4, none⟩ (.int .i64 q.1.best)) (.slice (some ⟨g, 0, none⟩) qs.length cb) (mixB qs qs' (i + 1))) := Lib.hid (by
          rw [← mixB_succ HBL.out hq hq']
          exact HRG.out.set hml hmi (j := 4) (by omega) rfl p3 p4 ⟨p5.1, p5.2.1, hok.2.2.1, p5.2.2.2⟩)
        clear eg2 eg3 p1 p3 p4 p5 hml hmi hq hq' hok
        go_wp2_with fail
        go_roundw
        case rel => exact ⟨i + 1, by omega, by go_num, HRG2⟩
        case measure => simp [intOf]; omega
      · have li : ¬ (i : Int) < qs.length := by omega
        obtain rfl : i = qs.length := by omega
        have HR1 : Hid (Reps wr (.slice Aq qs.length cq) (qs.map (·.1))) := Lib.hid (HOWN.out.reps.keep HB8.out)
        have HR2 : Hid (Reps wr (.slice Ab qs.length cb) (qs.map (·.1))) := Lib.hid (by
          have h := HRG.out.repsQ.reps
          rwa [mixB_end HEQ.out] at h)
        have HBF : Hid (Below w.heap.size w wr) := Lib.hid (HB02.out.trans (HB8.out.mono HB02.out.size))
        go_wp2_with fail
        refine (srep_same _ _ _ wr HR1.out HR2.out).mono ?_
        rintro e w9 ⟨rfl, n, rfl⟩
        go_wp2_with fail
        refine (HAW.out _ (bdrew HBF.out n)).mono ?_
        rintro e w' ⟨rfl, hb⟩
        have HB := Lib.hid hb
        clear hb
        go_wp2_with fail
        go_ret
        exact ⟨rfl, HB.out⟩
end Go.Proofs.YtccpelfnkjckiaaDoor
