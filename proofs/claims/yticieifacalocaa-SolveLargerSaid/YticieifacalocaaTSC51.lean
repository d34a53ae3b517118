/- SaidSLa -/
import Derived.Test.YticieifacalocaaTSC50
import Derived.Deep.DeepHandedRow
namespace Go.Proofs.Yticieifacalocaa.solveLarger
open Go.ChangeShapes Go.WideShapes Go.ChangeAt Go.RowKit Go.Joins
theorem own:ownKnob Try.prog.godebug=none:=by kernel_rfl
theorem laidOut:laidOutB Try.prog=true:=by kernel_rfl
set_option maxRecDepth 100000 in
theorem contract (H:Type) (enc:TypeId × Value→H) (W:World) (base:Nat) (args:Array Value) (ds gs:List (DataW H)) (before:List MemPlace)
  (hval:∀(j:Nat) t v,Try.f4.params[j]? = some t→args[j]? = some v→Value.okWide Try.prog W .any base t v)
  (hW:DataW.Whole enc Try.prog Try.f4.params.toList Rows.solveLargerSpec.vars false W args.toList ds gs before)
  (hsz:(DataW.weightsEach Try.prog (Try.f4.params.toList++(OpenSpec.ofChange Rows.solveLargerSpec).bare.plain.varTypes Try.prog) (ds++gs)).all (· ≤ reachBytes)=true) :
  Calls Try.prog 4 args W fun e W'=>∃v,e = .returned v∧Rows.solveLargerSpec.post enc Try.prog Try.f4 false true false false W args v W':=by
 have hW':=hW
 obtain ⟨p,q,hA,hV,rfl,hfz,hnd⟩:=hW
 rw [Try.params4] at hA hval hsz
 obtain ⟨v0,vs0,d0,ds0,p0,q0,hargs,rfl,rfl,h0,r0⟩:=trodAll_cons hA
 obtain ⟨rfl,rfl,rfl⟩:=trodAll_nil r0
 obtain rfl:args = #[v0]:=by cases args;simp_all
 obtain ⟨a0,b0,c0,L0,hp0⟩:=pY (hval 0 25 v0 rfl rfl) h0
 refine (lawSLa v0 a0 b0 c0 L0 W hp0).mono fun e W' ⟨he,hb⟩=>⟨_,he,?_⟩
 exact nD (tb:=4) hW' rfl (by kernel_rfl) Try.underlying4 rfl laidOut (by rw [Try.params4];decide +kernel) hb
theorem reads (os:Os) {H:Type} (enc:TypeId × Value→H):∃places,DataW.whole enc Try.prog ((World.holding Try.prog os ⟨#[], #[],[]⟩).forCall (fun _ _=>0) ⟨#[], #[.agg #[.int .u8 0, .int .u8 0, .int .u8 0, .slice none 0 0]],[]⟩).memory Try.f4.params.toList Rows.solveLargerSpec.vars false (#[.agg #[.int .u8 0, .int .u8 0, .int .u8 0, .slice none 0 0]]:Array Value).toList 8=some ([.agg [.agg [.lit (.int .u8 0), .lit (.int .u8 0), .lit (.int .u8 0)], .nil]],[],places) :=
 ⟨[],by kernel_rfl⟩
set_option maxRecDepth 100000 in
theorem lifted (os:Os) (started:os.Started) (H:Type) (enc:TypeId × Value→H) (F:Stop.Interp) :
  ReturnsInHanded {} Try.checked os 4 .any ((OpenSpec.ofChange Rows.solveLargerSpec).preRow enc Try.prog Try.f4 Rows.solveLargerRow.domain false Rows.solveLargerRow.laid) (((OpenSpec.ofChange Rows.solveLargerSpec).at F).post enc Try.prog Try.f4 false true false false):=by
 obtain ⟨places,hx⟩:=reads os enc
 refine returnsInHanded_of_row (C:=Try.checked) (s:=OpenSpec.ofChange Rows.solveLargerSpec) own started (by kernel_rfl) Try.func4
  (witness_row_at (enc:=enc) (C:=Try.checked) false (World.holding Try.prog os ⟨#[], #[],[]⟩) #[.agg #[.int .u8 0, .int .u8 0, .int .u8 0, .slice none 0 0]] rfl (by kernel_rfl) (by kernel_rfl) (by kernel_rfl)
   (vH 8 hx (by kernel_rfl) (fun k hk=>by cases hk) (by kernel_rfl) (laidMet_of_run' 8 (by kernel_rfl) (by kernel_rfl)))) ?_
 intro W base args ds gs before hval hW _ hcond hsz hL _ _
 exact contract H enc W base args ds gs before hval hW hsz
theorem said:Rows.SolveLargerSaid :=
 vF 4 Try.f4 rfl rfl rfl rfl rfl rfl rfl ⟨rfl,rfl,rfl,rfl,rfl⟩ rfl rfl rfl rfl rfl (by kernel_rfl) Try.func4 (by kernel_rfl)
  (xU (by kernel_rfl)) (by unfold Func.isWrapper;first|(rw [if_pos (by decide +kernel)];kernel_rfl)|(rw [if_neg (by decide +kernel)];exact ⟨rfl,rfl⟩))
  (fun os started H enc _ F=>by rw [vG];exact lifted os started H enc F)
end Go.Proofs.Yticieifacalocaa.solveLarger
