/- SaidSMo -/
import Derived.Test.YticieifacalocaaTSH55
import Derived.Deep.DeepHandedRow
namespace Go.Proofs.Yticieifacalocaa.solveModels
open Go.ChangeShapes Go.WideShapes Go.ChangeAt Go.RowKit Go.Joins
theorem own:ownKnob Try.prog.godebug=none:=by kernel_rfl
theorem laidOut:laidOutB Try.prog=true:=by kernel_rfl
set_option maxRecDepth 100000 in
theorem contract (H:Type) (enc:TypeId × Value→H) (W:World) (base:Nat) (args:Array Value) (ds gs:List (DataW H)) (before:List MemPlace)
  (hval:∀(j:Nat) t v,Try.f6.params[j]? = some t→args[j]? = some v→Value.okWide Try.prog W .any base t v)
  (hW:DataW.Whole enc Try.prog Try.f6.params.toList Rows.solveModelsSpec.vars false W args.toList ds gs before)
  (hsz:(DataW.weightsEach Try.prog (Try.f6.params.toList++(OpenSpec.ofChange Rows.solveModelsSpec).bare.plain.varTypes Try.prog) (ds++gs)).all (· ≤ reachBytes)=true) :
  Calls Try.prog 6 args W fun e W'=>∃v,e = .returned v∧Rows.solveModelsSpec.post enc Try.prog Try.f6 false true false false W args v W':=by
 have hW':=hW
 obtain ⟨p,q,hA,hV,rfl,hfz,hnd⟩:=hW
 rw [Try.params6] at hA hval hsz
 obtain ⟨v0,vs0,d0,ds0,p0,q0,hargs,rfl,rfl,h0,r0⟩:=trodAll_cons hA
 obtain ⟨v1,vs1,d1,ds1,p1,q1,rfl,rfl,rfl,h1,r1⟩:=trodAll_cons r0
 obtain ⟨v2,vs2,d2,ds2,p2,q2,rfl,rfl,rfl,h2,r2⟩:=trodAll_cons r1
 obtain ⟨rfl,rfl,rfl⟩:=trodAll_nil r2
 obtain rfl:args = #[v0,v1,v2]:=by cases args;simp_all
 obtain ⟨a0,b0,c0,L0,hp0⟩:=rd_prob (hval 0 25 v0 rfl rfl) h0
 obtain ⟨fuel1,h1⟩:=h1
 obtain ⟨x1,hx1⟩:=rd_i8s Try.underlying47 Try.underlying48 (by kernel_rfl) (v_one (hval 1 47 v1 rfl rfl) h1 Try.underlying47)
 obtain ⟨fuel2,h2⟩:=h2
 obtain ⟨x2,hx2⟩:=rd_bools Try.underlying32 Try.underlying4 (by kernel_rfl) (v_one (hval 2 32 v2 rfl rfl) h2 Try.underlying32)
 refine (lawSMo v0 v1 v2 a0 b0 c0 L0 x1 x2 W hp0 hx1 hx2).mono fun e W' ⟨he,hb⟩=>⟨_,he,?_⟩
 exact law_post (tb:=4) hW' rfl (by kernel_rfl) Try.underlying4 rfl laidOut (by rw [Try.params6];decide +kernel) hb
theorem reads (os:Os) {H:Type} (enc:TypeId × Value→H):∃places,DataW.whole enc Try.prog ((World.holding Try.prog os ⟨#[], #[],[]⟩).forCall (fun _ _=>0) ⟨#[], #[.agg #[.int .u8 0, .int .u8 0, .int .u8 0, .slice none 0 0], .slice none 0 0, .slice none 0 0],[]⟩).memory Try.f6.params.toList Rows.solveModelsSpec.vars false (#[.agg #[.int .u8 0, .int .u8 0, .int .u8 0, .slice none 0 0], .slice none 0 0, .slice none 0 0]:Array Value).toList 8=some ([.agg [.agg [.lit (.int .u8 0), .lit (.int .u8 0), .lit (.int .u8 0)], .nil], .nil, .nil],[],places) :=
 ⟨[],by kernel_rfl⟩
set_option maxRecDepth 100000 in
theorem lifted (os:Os) (started:os.Started) (H:Type) (enc:TypeId × Value→H) (F:Stop.Interp) :
  ReturnsInHanded {} Try.checked os 6 .any ((OpenSpec.ofChange Rows.solveModelsSpec).preRow enc Try.prog Try.f6 Rows.solveModelsRow.domain false Rows.solveModelsRow.laid) (((OpenSpec.ofChange Rows.solveModelsSpec).at F).post enc Try.prog Try.f6 false true false false):=by
 obtain ⟨places,hx⟩:=reads os enc
 refine returnsInHanded_of_row (C:=Try.checked) (s:=OpenSpec.ofChange Rows.solveModelsSpec) own started (by kernel_rfl) Try.func6
  (witness_row_at (enc:=enc) (C:=Try.checked) false (World.holding Try.prog os ⟨#[], #[],[]⟩) #[.agg #[.int .u8 0, .int .u8 0, .int .u8 0, .slice none 0 0], .slice none 0 0, .slice none 0 0] rfl (by kernel_rfl) (by kernel_rfl) (by kernel_rfl)
   (OpenSpec.preRow_of_cond 8 hx (by kernel_rfl) (fun k hk=>by cases hk) (by kernel_rfl) (laidMet_of_run' 8 (by kernel_rfl) (by kernel_rfl)))) ?_
 intro W base args ds gs before hval hW _ hcond hsz hL _ _
 exact contract H enc W base args ds gs before hval hW hsz
theorem said:Rows.SolveModelsSaid :=
 OpenClaim.holds_of_cond 6 Try.f6 rfl rfl rfl rfl rfl rfl rfl ⟨rfl,rfl,rfl,rfl,rfl⟩ rfl rfl rfl rfl rfl (by kernel_rfl) Try.func6 (by kernel_rfl)
  (kP (by kernel_rfl)) (by unfold Func.isWrapper;first|(rw [if_pos (by decide +kernel)];kernel_rfl)|(rw [if_neg (by decide +kernel)];exact ⟨rfl,rfl⟩))
  (fun os started H enc _ F=>by rw [OpenClaim.pre_eq_preRow];exact lifted os started H enc F)
end Go.Proofs.Yticieifacalocaa.solveModels
