/-
  THE LAW ReportFormats, FOR EVERY INPUT OF BULK AT MOST 1048576: it returns true; the arguments read as they did. No condition but that.
-/
import Derived.Test.YtccpelfnkjckiaaDoorLawRFmt
import Derived.Test.YtccpelfnkjckiaaDoorClose39
import Derived.Test.YtccpelfnkjckiaaDoorOpen
import Derived.Test.YtccpelfnkjckiaaDoorOpen39U
namespace Go.Proofs.YtccpelfnkjckiaaDoor.reportFormats
open Go.ChangeShapes Go.WideShapes Go.ChangeAt Go.RowKit Go.Joins

set_option maxRecDepth 100000 in
theorem contract (H : Type) (enc : TypeId × Value → H) (W : World) (base : Nat) (args : Array Value) (ds gs : List (DataW H)) (before : List MemPlace)
    (hval : ∀ (j : Nat) t v, Tryd.f8.params[j]? = some t → args[j]? = some v → Value.okWide Tryd.prog W .any base t v)
    (hW : DataW.Whole enc Tryd.prog Tryd.f8.params.toList Rows.reportFormatsSpec.vars false W args.toList ds gs before) (hL : laidMetH Tryd.prog Rows.reportFormatsUptoRow.laid W)
    (hsz : (DataW.weightsEach Tryd.prog (Tryd.f8.params.toList ++ (Rows.OpenSpec.upto Rows.reportFormatsSpec).bare.plain.varTypes Tryd.prog) (ds ++ gs)).all (· ≤ reachBytes) = true) (hk : Rows.uptoSmall H (ds ++ gs) = true) :
    Calls Tryd.prog 8 args W fun e W' => ∃ v, e = .returned v ∧ Rows.reportFormatsSpec.post enc Tryd.prog Tryd.f8 false true false false W args v W' := by
  have hW' := hW
  obtain ⟨p, q, hA, hV, rfl, hfz, hnd⟩ := hW
  rw [Tryd.params8] at hA hval hsz
  obtain ⟨v0, vs0, d0, ds0, p0, q0, hargs, rfl, rfl, h0, r0⟩ := trodAll_cons hA
  obtain ⟨v1, vs1, d1, ds1, p1, q1, rfl, rfl, rfl, h1, r1⟩ := trodAll_cons r0
  obtain ⟨v2, vs2, d2, ds2, p2, q2, rfl, rfl, rfl, h2, r2⟩ := trodAll_cons r1
  obtain ⟨rfl, rfl, rfl⟩ := trodAll_nil r2
  obtain rfl : args = #[v0, v1, v2] := by cases args; simp_all
  have hkb := bulk_bound hk
  obtain ⟨fuel0, h0⟩ := h0
  have o0 := v_one (hval 0 64 v0 rfl rfl) h0 Tryd.underlying64
  have b0 := bulk_part (d := d0) (l := [d0, d1, d2] ++ gs) (by simp)
  obtain ⟨thr, hthr, hthl⟩ := rd_strsU Tryd.underlying64 Tryd.underlying9 (by kernel_rfl) o0 (by simp only; omega)
  obtain ⟨fuel1, h1⟩ := h1
  have o1 := v_one (hval 1 65 v1 rfl rfl) h1 Tryd.underlying65
  obtain ⟨sts, hsts⟩ := rd_sites o1
  obtain ⟨fuel2, h2⟩ := h2
  have o2 := v_one (hval 2 48 v2 rfl rfl) h2 Tryd.underlying48
  have b2 := bulk_part (d := d2) (l := [d0, d1, d2] ++ gs) (by simp)
  obtain ⟨rs, hrs, hrl, hrss⟩ := rd_repsU o2 (by simp only; omega)
  refine (lawRFmt v0 v1 v2 thr sts rs W hthr hsts hrs hthl hrl hrss (tab_of4 hL) (words_of4 hL)).mono fun e W' ⟨he, hb⟩ => ⟨_, he, ?_⟩
  exact law_post (tb := 4) hW' rfl (by kernel_rfl) Tryd.underlying4 rfl laidOut (by rw [Tryd.params8]; decide +kernel) hb

theorem laid_met (os : Os) : laidMet Tryd.prog Rows.reportFormatsUptoRow.laid ((laidWorld4 os).forCall (fun _ _ => 0) ⟨#[], #[.slice none 0 0, .slice none 0 0, .slice none 0 0], []⟩).memory :=
  laidMet_of_run' 8 (by kernel_rfl) (by kernel_rfl)
theorem reads (os : Os) {H : Type} (enc : TypeId × Value → H) : ∃ places, DataW.whole enc Tryd.prog ((laidWorld4 os).forCall (fun _ _ => 0) ⟨#[], #[.slice none 0 0, .slice none 0 0, .slice none 0 0], []⟩).memory Tryd.f8.params.toList Rows.reportFormatsSpec.vars false (#[.slice none 0 0, .slice none 0 0, .slice none 0 0] : Array Value).toList 8 = some ([.nil, .nil, .nil], [], places) :=
  ⟨[], by kernel_rfl⟩

set_option maxRecDepth 100000 in
theorem lifted (os : Os) (started : os.Started) (H : Type) (enc : TypeId × Value → H) (F : Stop.Interp) :
    ReturnsInHanded {} Tryd.checked os 8 .any ((Rows.OpenSpec.upto Rows.reportFormatsSpec).preRow enc Tryd.prog Tryd.f8 Rows.reportFormatsUptoRow.domain false Rows.reportFormatsUptoRow.laid) (((Rows.OpenSpec.upto Rows.reportFormatsSpec).at F).post enc Tryd.prog Tryd.f8 false true false false) := by
  obtain ⟨places, hx⟩ := reads os enc
  refine returnsInHanded_of_row (C := Tryd.checked) (s := Rows.OpenSpec.upto Rows.reportFormatsSpec) own started (by kernel_rfl) Tryd.func8
    (witness_row_at (enc := enc) (C := Tryd.checked) false (laidWorld4 os) #[.slice none 0 0, .slice none 0 0, .slice none 0 0] rfl (by kernel_rfl) (by kernel_rfl) (by kernel_rfl)
      (OpenSpec.preRow_of_cond 8 hx (by kernel_rfl) (fun k hk => by cases hk; kernel_rfl) (by kernel_rfl) (laid_met os))) ?_
  intro W base args ds gs before hval hW _ hcond hsz hL _ _
  exact contract H enc W base args ds gs before hval hW hL hsz (hcond _ rfl)

theorem said : Rows.ReportFormatsUptoSaid :=
  OpenClaim.holds_of_cond 8 Tryd.f8 rfl rfl rfl rfl rfl rfl rfl ⟨rfl, rfl, rfl, rfl, rfl⟩ rfl rfl rfl rfl rfl (by kernel_rfl) Tryd.func8 (by kernel_rfl)
    (of_decide_eq_true (by kernel_rfl)) (by unfold Func.isWrapper; first | (rw [if_pos (by decide +kernel)]; kernel_rfl) | (rw [if_neg (by decide +kernel)]; exact ⟨rfl, rfl⟩))
    (fun os started H enc _ F => by rw [OpenClaim.pre_eq_preRow]; exact lifted os started H enc F)

theorem plain (f : FuncId) (fn : Func) (hf : Tryd.pinned.checked.prog.funcNamed "interleave/interleavelaw39.ReportFormats" = some f) (hfn : Tryd.pinned.checked.prog.funcs[f]? = some fn) :
    false = Tryd.pinned.checked.prog.looks [] ∧ ∀ (j : Nat) t, fn.params[j]? = some t → Tryd.pinned.checked.prog.wantsStandIn t = false := by
  obtain rfl : f = 8 := Option.some.inj ((show Tryd.prog.funcNamed "interleave/interleavelaw39.ReportFormats" = some 8 by kernel_rfl).symm.trans hf) |>.symm
  obtain rfl : fn = Tryd.f8 := (Option.some.inj (Tryd.func8.symm.trans hfn)).symm
  refine ⟨by kernel_rfl, fun j t ht => ?_⟩
  rw [Tryd.params8] at ht
  have hm := Array.mem_of_getElem? ht
  exact (show ∀ t ∈ (#[64, 65, 48] : Array Nat), Tryd.prog.wantsStandIn t = false by decide +kernel) t hm

/-- THE CARD. -/
theorem card : Rows.ReportFormatsUptoCardSaid :=
  Claim7.holds_tied_plain_at .later [] _ _ _ _ said (fun _ h => by cases h) (by kernel_rfl) (fun _ h => by cases h) reportFormatsUpto_row_tie rfl ⟨rfl, rfl⟩ (by kernel_rfl) rfl plain (by kernel_rfl)
end Go.Proofs.YtccpelfnkjckiaaDoor.reportFormats
