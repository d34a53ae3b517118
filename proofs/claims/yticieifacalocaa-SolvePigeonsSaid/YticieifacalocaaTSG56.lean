/- SaidSPi -/
import Derived.Test.YticieifacalocaaTSG55
import Derived.Test.YticieifacalocaaTSG52
import Derived.Deep.DeepHandedRow
namespace Go.Proofs.Yticieifacalocaa.solvePigeons
open Go.ChangeShapes Go.WideShapes Go.ChangeAt Go.RowKit Go.Joins
theorem own:ownKnob Try.prog.godebug=none:=by kernel_rfl
theorem laidOut:laidOutB Try.prog=true:=by kernel_rfl
set_option maxRecDepth 100000 in
theorem contract (H:Type) (enc:TypeId × Value→H) (W:World) (base:Nat) (args:Array Value) (ds gs:List (DataW H)) (before:List MemPlace)
  (hval:∀(j:Nat) t v,Try.f8.params[j]? = some t→args[j]? = some v→Value.okWide Try.prog W .any base t v)
  (hW:DataW.Whole enc Try.prog Try.f8.params.toList Rows.solvePigeonsSpec.vars false W args.toList ds gs before)
  (hsz:(DataW.weightsEach Try.prog (Try.f8.params.toList++(OpenSpec.ofChange Rows.solvePigeonsSpec).bare.plain.varTypes Try.prog) (ds++gs)).all (· ≤ reachBytes)=true) :
  Calls Try.prog 8 args W fun e W'=>∃v,e = .returned v∧Rows.solvePigeonsSpec.post enc Try.prog Try.f8 false true false false W args v W':=by
 have hW':=hW
 obtain ⟨p,q,hA,hV,rfl,hfz,hnd⟩:=hW
 rw [Try.params8] at hA hval hsz
 obtain ⟨v0,vs0,d0,ds0,p0,q0,hargs,rfl,rfl,h0,r0⟩:=trodAll_cons hA
 obtain ⟨rfl,rfl,rfl⟩:=trodAll_nil r0
 obtain rfl:args = #[v0]:=by cases args;simp_all
 obtain ⟨n0,rfl,hn0⟩:=rd_u8 Try.underlying5 (hval 0 5 v0 rfl rfl) h0
 refine (lawSPi n0 W hn0.1 hn0.2).mono fun e W' ⟨he,hb⟩=>⟨_,he,?_⟩
 exact rM (tb:=4) hW' rfl (by kernel_rfl) Try.underlying4 rfl laidOut (by rw [Try.params8];decide +kernel) hb
theorem reads (os:Os) {H:Type} (enc:TypeId × Value→H):∃places,DataW.whole enc Try.prog ((World.holding Try.prog os ⟨#[], #[],[]⟩).forCall (fun _ _=>0) ⟨#[], #[.int .u8 0],[]⟩).memory Try.f8.params.toList Rows.solvePigeonsSpec.vars false (#[.int .u8 0]:Array Value).toList 8=some ([.lit (.int .u8 0)],[],places) :=
 ⟨[],by kernel_rfl⟩
set_option maxRecDepth 100000 in
theorem lifted (os:Os) (started:os.Started) (H:Type) (enc:TypeId × Value→H) (F:Stop.Interp) :
  ReturnsInHanded {} Try.checked os 8 .any ((OpenSpec.ofChange Rows.solvePigeonsSpec).preRow enc Try.prog Try.f8 Rows.solvePigeonsRow.domain false Rows.solvePigeonsRow.laid) (((OpenSpec.ofChange Rows.solvePigeonsSpec).at F).post enc Try.prog Try.f8 false true false false):=by
 obtain ⟨places,hx⟩:=reads os enc
 refine returnsInHanded_of_row (C:=Try.checked) (s:=OpenSpec.ofChange Rows.solvePigeonsSpec) own started (by kernel_rfl) Try.func8
  (witness_row_at (enc:=enc) (C:=Try.checked) false (World.holding Try.prog os ⟨#[], #[],[]⟩) #[.int .u8 0] rfl (by kernel_rfl) (by kernel_rfl) (by kernel_rfl)
   (uL 8 hx (by kernel_rfl) (fun k hk=>by cases hk) (by kernel_rfl) (laidMet_of_run' 8 (by kernel_rfl) (by kernel_rfl)))) ?_
 intro W base args ds gs before hval hW _ hcond hsz hL _ _
 exact contract H enc W base args ds gs before hval hW hsz
theorem said:Rows.SolvePigeonsSaid :=
 uJ 8 Try.f8 rfl rfl rfl rfl rfl rfl rfl ⟨rfl,rfl,rfl,rfl,rfl⟩ rfl rfl rfl rfl rfl (by kernel_rfl) Try.func8 (by kernel_rfl)
  (xU (by kernel_rfl)) (by unfold Func.isWrapper;first|(rw [if_pos (by decide +kernel)];kernel_rfl)|(rw [if_neg (by decide +kernel)];exact ⟨rfl,rfl⟩))
  (fun os started H enc _ F=>by rw [uK];exact lifted os started H enc F)
end Go.Proofs.Yticieifacalocaa.solvePigeons
