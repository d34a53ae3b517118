/- SaidPAny -/
import Derived.Test.YticieifacalocaaPB52
import Derived.Test.YticieifacalocaaPB5
import Derived.Deep.DeepHandedRow
namespace Go.Proofs.Yticieifacalocaa.propagateAny
open Go.ChangeShapes Go.WideShapes Go.ChangeAt Go.RowKit Go.Joins
theorem own:ownKnob Try.prog.godebug=none:=by kernel_rfl
theorem laidOut:laidOutB Try.prog=true:=by kernel_rfl
set_option maxRecDepth 100000 in
theorem contract (H:Type) (enc:TypeId × Value→H) (W:World) (base:Nat) (args:Array Value) (ds gs:List (DataW H)) (before:List MemPlace)
  (hval:∀(j:Nat) t v,Try.f11.params[j]? = some t→args[j]? = some v→Value.okWide Try.prog W .any base t v)
  (hW:DataW.Whole enc Try.prog Try.f11.params.toList Rows.propagateAnySpec.vars false W args.toList ds gs before)
  (hsz:(DataW.weightsEach Try.prog (Try.f11.params.toList++(OpenSpec.ofChange Rows.propagateAnySpec).bare.plain.varTypes Try.prog) (ds++gs)).all (· ≤ reachBytes)=true) :
  Calls Try.prog 11 args W fun e W'=>∃v,e = .returned v∧Rows.propagateAnySpec.post enc Try.prog Try.f11 false true false false W args v W':=by
 have hW':=hW
 obtain ⟨p,q,hA,hV,rfl,hfz,hnd⟩:=hW
 rw [Try.params11] at hA hval hsz
 obtain ⟨v0,vs0,d0,ds0,p0,q0,hargs,rfl,rfl,h0,r0⟩:=trodAll_cons hA
 obtain ⟨v1,vs1,d1,ds1,p1,q1,rfl,rfl,rfl,h1,r1⟩:=trodAll_cons r0
 obtain ⟨rfl,rfl,rfl⟩:=trodAll_nil r1
 obtain rfl:args = #[v0,v1]:=by cases args;simp_all
 obtain ⟨f0,hf0,wf0⟩:=rd_form (hval 0 29 v0 rfl rfl) h0
 obtain ⟨wa0,wc0,wl0⟩:=wf0 (weights_arg (ts:=_) (j:=0) hsz rfl rfl)
 obtain ⟨fuel1,h1⟩:=h1
 obtain ⟨x1,hx1,wx1⟩:=rd_ints Try.underlying33 Try.underlying3 (by kernel_rfl) (by kernel_rfl) (v_one (hval 1 33 v1 rfl rfl) h1 Try.underlying33)
 have wx1:=wx1 (weights_arg (ts:=_) (j:=1) hsz rfl rfl)
 refine (lawPAny v0 v1 f0 x1 W hf0 wa0 wc0 wl0 hx1 (Nat.le_trans wx1 (by decide))).mono fun e W' ⟨he,hb⟩=>⟨_,he,?_⟩
 exact law_post (tb:=4) hW' rfl (by kernel_rfl) Try.underlying4 rfl laidOut (by rw [Try.params11];decide +kernel) hb
theorem reads (os:Os) {H:Type} (enc:TypeId × Value→H):∃places,DataW.whole enc Try.prog ((World.holding Try.prog os ⟨#[], #[],[]⟩).forCall (fun _ _=>0) ⟨#[], #[.agg #[.int .i64 0, .int .i64 0, .slice none 0 0, .slice none 0 0], .slice none 0 0],[]⟩).memory Try.f11.params.toList Rows.propagateAnySpec.vars false (#[.agg #[.int .i64 0, .int .i64 0, .slice none 0 0, .slice none 0 0], .slice none 0 0]:Array Value).toList 8=some ([.agg [.lit (.int .i64 0), .lit (.int .i64 0), .nil, .nil], .nil],[],places) :=
 ⟨[],by kernel_rfl⟩
set_option maxRecDepth 100000 in
theorem lifted (os:Os) (started:os.Started) (H:Type) (enc:TypeId × Value→H) (F:Stop.Interp) :
  ReturnsInHanded {} Try.checked os 11 .any ((OpenSpec.ofChange Rows.propagateAnySpec).preRow enc Try.prog Try.f11 Rows.propagateAnyRow.domain false Rows.propagateAnyRow.laid) (((OpenSpec.ofChange Rows.propagateAnySpec).at F).post enc Try.prog Try.f11 false true false false):=by
 obtain ⟨places,hx⟩:=reads os enc
 refine returnsInHanded_of_row (C:=Try.checked) (s:=OpenSpec.ofChange Rows.propagateAnySpec) own started (by kernel_rfl) Try.func11
  (witness_row_at (enc:=enc) (C:=Try.checked) false (World.holding Try.prog os ⟨#[], #[],[]⟩) #[.agg #[.int .i64 0, .int .i64 0, .slice none 0 0, .slice none 0 0], .slice none 0 0] rfl (by kernel_rfl) (by kernel_rfl) (by kernel_rfl)
   (OpenSpec.preRow_of_cond 8 hx (by kernel_rfl) (fun k hk=>by cases hk) (by kernel_rfl) (laidMet_of_run' 8 (by kernel_rfl) (by kernel_rfl)))) ?_
 intro W base args ds gs before hval hW _ hcond hsz hL _ _
 exact contract H enc W base args ds gs before hval hW hsz
theorem said:Rows.PropagateAnySaid :=
 OpenClaim.holds_of_cond 11 Try.f11 rfl rfl rfl rfl rfl rfl rfl ⟨rfl,rfl,rfl,rfl,rfl⟩ rfl rfl rfl rfl rfl (by kernel_rfl) Try.func11 (by kernel_rfl)
  (of_decide_eq_true (by kernel_rfl)) (by unfold Func.isWrapper;first|(rw [if_pos (by decide +kernel)];kernel_rfl)|(rw [if_neg (by decide +kernel)];exact ⟨rfl,rfl⟩))
  (fun os started H enc _ F=>by rw [OpenClaim.pre_eq_preRow];exact lifted os started H enc F)
end Go.Proofs.Yticieifacalocaa.propagateAny
