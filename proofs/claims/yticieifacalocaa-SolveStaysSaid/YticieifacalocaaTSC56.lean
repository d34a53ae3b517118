/- SaidSSt -/
import Derived.Test.YticieifacalocaaTSC55
import Derived.Deep.DeepHandedRow
namespace Go.Proofs.Yticieifacalocaa.solveStays
open Go.ChangeShapes Go.WideShapes Go.ChangeAt Go.RowKit Go.Joins
theorem own:ownKnob Try.prog.godebug=none:=by kernel_rfl
theorem laidOut:laidOutB Try.prog=true:=by kernel_rfl
set_option maxRecDepth 100000 in
theorem contract (H:Type) (enc:TypeId × Value→H) (W:World) (base:Nat) (args:Array Value) (ds gs:List (DataW H)) (before:List MemPlace)
  (hval:∀(j:Nat) t v,Try.f9.params[j]? = some t→args[j]? = some v→Value.okWide Try.prog W .any base t v)
  (hW:DataW.Whole enc Try.prog Try.f9.params.toList Rows.solveStaysSpec.vars false W args.toList ds gs before)
  (hsz:(DataW.weightsEach Try.prog (Try.f9.params.toList++(OpenSpec.ofChange Rows.solveStaysSpec).bare.plain.varTypes Try.prog) (ds++gs)).all (· ≤ reachBytes)=true) :
  Calls Try.prog 9 args W fun e W'=>∃v,e = .returned v∧Rows.solveStaysSpec.post enc Try.prog Try.f9 false true false false W args v W':=by
 have hW':=hW
 obtain ⟨p,q,hA,hV,rfl,hfz,hnd⟩:=hW
 rw [Try.params9] at hA hval hsz
 obtain ⟨v0,vs0,d0,ds0,p0,q0,hargs,rfl,rfl,h0,r0⟩:=trodAll_cons hA
 obtain ⟨v1,vs1,d1,ds1,p1,q1,rfl,rfl,rfl,h1,r1⟩:=trodAll_cons r0
 obtain ⟨v2,vs2,d2,ds2,p2,q2,rfl,rfl,rfl,h2,r2⟩:=trodAll_cons r1
 obtain ⟨rfl,rfl,rfl⟩:=trodAll_nil r2
 obtain rfl:args = #[v0,v1,v2]:=by cases args;simp_all
 obtain ⟨a0,b0,c0,L0,hp0⟩:=pY (hval 0 25 v0 rfl rfl) h0
 obtain ⟨fuel1,h1⟩:=h1
 obtain ⟨x1,hx1⟩:=rd_byts Try.underlying23 Try.underlying5 (by kernel_rfl) (v_one (hval 1 23 v1 rfl rfl) h1 Try.underlying23)
 obtain ⟨n2,rfl,hn2⟩:=rd_u8 Try.underlying5 (hval 2 5 v2 rfl rfl) h2
 refine (lawSSt v0 v1 a0 b0 c0 L0 x1 n2 W hp0 hx1 hn2.1 hn2.2).mono fun e W' ⟨he,hb⟩=>⟨_,he,?_⟩
 exact nD (tb:=4) hW' rfl (by kernel_rfl) Try.underlying4 rfl laidOut (by rw [Try.params9];decide +kernel) hb
theorem reads (os:Os) {H:Type} (enc:TypeId × Value→H):∃places,DataW.whole enc Try.prog ((World.holding Try.prog os ⟨#[], #[],[]⟩).forCall (fun _ _=>0) ⟨#[], #[.agg #[.int .u8 0, .int .u8 0, .int .u8 0, .slice none 0 0], .slice none 0 0, .int .u8 0],[]⟩).memory Try.f9.params.toList Rows.solveStaysSpec.vars false (#[.agg #[.int .u8 0, .int .u8 0, .int .u8 0, .slice none 0 0], .slice none 0 0, .int .u8 0]:Array Value).toList 8=some ([.agg [.agg [.lit (.int .u8 0), .lit (.int .u8 0), .lit (.int .u8 0)], .nil], .nil, .lit (.int .u8 0)],[],places) :=
 ⟨[],by kernel_rfl⟩
set_option maxRecDepth 100000 in
theorem lifted (os:Os) (started:os.Started) (H:Type) (enc:TypeId × Value→H) (F:Stop.Interp) :
  ReturnsInHanded {} Try.checked os 9 .any ((OpenSpec.ofChange Rows.solveStaysSpec).preRow enc Try.prog Try.f9 Rows.solveStaysRow.domain false Rows.solveStaysRow.laid) (((OpenSpec.ofChange Rows.solveStaysSpec).at F).post enc Try.prog Try.f9 false true false false):=by
 obtain ⟨places,hx⟩:=reads os enc
 refine returnsInHanded_of_row (C:=Try.checked) (s:=OpenSpec.ofChange Rows.solveStaysSpec) own started (by kernel_rfl) Try.func9
  (witness_row_at (enc:=enc) (C:=Try.checked) false (World.holding Try.prog os ⟨#[], #[],[]⟩) #[.agg #[.int .u8 0, .int .u8 0, .int .u8 0, .slice none 0 0], .slice none 0 0, .int .u8 0] rfl (by kernel_rfl) (by kernel_rfl) (by kernel_rfl)
   (vH 8 hx (by kernel_rfl) (fun k hk=>by cases hk) (by kernel_rfl) (laidMet_of_run' 8 (by kernel_rfl) (by kernel_rfl)))) ?_
 intro W base args ds gs before hval hW _ hcond hsz hL _ _
 exact contract H enc W base args ds gs before hval hW hsz
theorem said:Rows.SolveStaysSaid :=
 vF 9 Try.f9 rfl rfl rfl rfl rfl rfl rfl ⟨rfl,rfl,rfl,rfl,rfl⟩ rfl rfl rfl rfl rfl (by kernel_rfl) Try.func9 (by kernel_rfl)
  (xU (by kernel_rfl)) (by unfold Func.isWrapper;first|(rw [if_pos (by decide +kernel)];kernel_rfl)|(rw [if_neg (by decide +kernel)];exact ⟨rfl,rfl⟩))
  (fun os started H enc _ F=>by rw [vG];exact lifted os started H enc F)
end Go.Proofs.Yticieifacalocaa.solveStays
