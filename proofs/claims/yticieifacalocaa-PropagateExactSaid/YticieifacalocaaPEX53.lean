/- PrpBoth LawPEx -/
import Derived.Test.YticieifacalocaaPEX50
import Derived.Test.YticieifacalocaaPEX52
import Derived.Test.YticieifacalocaaPEX3
import Derived.Test.YticieifacalocaaPEX4
namespace Go.Proofs.Yticieifacalocaa
open Go.RowKit
theorem prop_both {f:Form} {B:Nat} (hv:validF f=0) (hb:f.bools=(B:Int)) (hgx:∀xs∈f.clauses,xs.length≤1000000) (ls:List Int) (hll:ls.length≤1000000) :
  ∃o,PrpOk B f.clauses ls o∧(∀w fv lv,IsForm w fv f→Ints w lv ls→Calls Try.prog 25 #[fv,lv] w (PrpRet w o))∧∀w fv lv,IsForm w fv f→Ints w lv ls→Calls Try.prog 26 #[fv,lv] w (PrpRet w o):=by
 obtain ⟨N,hN⟩:∃N:Nat,f.ints=N:=⟨f.ints.toNat,by have:=(validF_ok hv).2.1;omega⟩
 have hq:=solQ_of hv hb hN
 have hcl:=hq.cl
 obtain ⟨o,h1,h2⟩:=outP_ok (B:=B) (gs:=f.clauses) hq.bl (by unfold LIM;omega) hq.cs ls
 obtain ⟨o2,h3,h4⟩:=rpOut_ok (B:=B) (gs:=f.clauses) hq.cs ls
 have e:=h2.uniq h4
 subst e
 exact ⟨o,h2,fun w fv lv hf hl=>spropagate_any hf hl hq.bl hb hv (by omega) hgx hll h1,fun w fv lv hf hl=>rprop_any hf hl hq.bl hb hq.cs h3⟩
theorem SmallF.lens {a b c:Int} {f:Form} (h:SmallF a b c f):∀xs∈f.clauses,xs.length≤1000000:=fun xs hx=>by
 have:=(h.2.2.2.2.2 xs hx).2.1
 omega
theorem SmallF.bools {a b c:Int} {f:Form} (h:SmallF a b c f):∃B:Nat,f.bools=B∧1≤B∧B≤18:=by
 obtain ⟨-,h2,h3, -⟩:=h
 exact ⟨f.bools.toNat,by omega,by omega,by omega⟩
end Go.Proofs.Yticieifacalocaa
namespace Go.Proofs.Yticieifacalocaa
open Go.RowKit
theorem tmod_i64 {x m:Int} (hx : -128≤x∧x≤127):I64 (x.tmod m):=by
 have h:=Int.natAbs_tmod x m
 have h2:=Nat.mod_le x.natAbs m.natAbs
 unfold I64
 omega
set_option maxRecDepth 100000 in
set_option maxHeartbeats 4000000 in
theorem lawPEx (pv lv:Value) (a b c:Int) (L xs:List Int) (w:World) (hp:IsProb w pv a b c L) (hl:I8s w lv xs) :
  Calls Try.prog 10 #[pv,lv] w fun e w'=>e = .returned (.bool true)∧Below w.heap.size w w':=by
 obtain ⟨iI,hiI,hzI0,hzI1,hzI2⟩:=info_parts info_int
 have HP:=Lib.hid hp
 obtain ⟨nv,rfl, -, -, -,hL⟩:=hp
 obtain ⟨An,cn,rfl, -, -, -, -⟩:=hL
 have HLL:=Lib.hid hl
 obtain ⟨Al,cl,rfl,hl1,hl2,hl3,hl4⟩:=hl
 unfold maxLen at hl2
 have HB:Hid (Below w.heap.size w (w.alloc (.cells #[.int .u8 a, .int .u8 b, .int .u8 c, .slice An L.length cn] 25))):=(Below.refl _ _).alloc (Nat.le_refl _) _
 clear hl3 hl4
 go_enter Try.func10,Try.ntmps10
 go_wp2_with fail
 generalize w.alloc (.cells #[.int .u8 a, .int .u8 b, .int .u8 c, .slice An L.length cn] 25)=W at *
 refine (problem_any _ a b c L _ ?hp).mono ?_
 case hp=>obtain ⟨nv,e1,e2⟩:=HP.out;exact ⟨_,rfl,e2.1,e2.2.1,e2.2.2.1,by injection e1 with e1;simp only [Array.mk.injEq,List.cons.injEq,and_true,true_and] at e1;rw [e1];exact e2.2.2.2.keep HB.out⟩
 rintro e w2 ⟨fv,f,rfl,hf,hsm,hb2⟩
 obtain ⟨B,hB,hB1,hB2⟩:=SmallF.bools hsm
 have HB2:=Lib.hid (HB.out.trans (hb2.mono HB.out.size))
 have HF2:=Lib.hid hf
 have HSM:=Lib.hid hsm
 have HBB:=Lib.hid hB
 obtain ⟨av,cv,rfl, -, -,hf3,hf4⟩:=hf
 obtain ⟨Aa,ca,rfl, -, -, -, -⟩:=hf3
 obtain ⟨Ac,cc,vs,rfl, -, -, -, -, -⟩:=hf4
 clear hb2 hsm HB HP
 have HBK:=Lib.hid (Blk.new w2 29 #[.int .i64 f.ints, .int .i64 (B:Int), .slice Aa f.atoms.length ca, .slice Ac f.clauses.length cc])
 have hb3:Below w2.heap.size w2 (w2.alloc (.cells #[.int .i64 f.ints, .int .i64 (B:Int), .slice Aa f.atoms.length ca, .slice Ac f.clauses.length cc] 29)):=(Below.refl _ _).alloc (Nat.le_refl _) _
 have HF3:=Lib.hid (HF2.out.keep hb3)
 have HB3:=Lib.hid (HB2.out.trans (hb3.mono HB2.out.size))
 have HL3:=Lib.hid (HLL.out.keep HB3.out)
 clear hb3 HF2 HB2 HLL
 go_upto_region 4 with fail
 generalize w2.alloc (.cells #[.int .i64 f.ints, .int .i64 (B:Int), .slice Aa f.atoms.length ca, .slice Ac f.clauses.length cc] 29)=w3 at *
 generalize w2.heap.size=bk at *
 go_loopw [6,17] (fun v i wr=>∃k:Nat,k≤xs.length∧i = .int .i64 (k:Int)∧∃(ins:List Int) (A:Option Addr) (c:Nat),v = .slice A ins.length c∧Hid (wr.ownsRow w3.heap.size 3 1 (.slice A ins.length c) ins.length (ci ins)∧(∀x∈ins,I64 x)∧ins.length≤6∧ins.length≤k∧Below w3.heap.size w3 wr)) (fun _ i _=>xs.length-(intOf i).toNat)
 case atStart=>exact ⟨0,Nat.zero_le _,rfl,[],none,0,rfl,Lib.hid ⟨World.ownsRow_nil _ _ _ _,by simp,by simp,by simp,Below.refl _ _⟩⟩
 case round =>
  obtain ⟨k,hk,rfl,ins,A,c,rfl,HO⟩:=hrel
  by_cases hlt:k<xs.length
  ·obtain ⟨x,hx⟩:∃x,xs[k]? = some x:=⟨_,List.getElem?_eq_getElem hlt⟩
   obtain ⟨A',c',hv', -, -,hx8,hrd⟩:=HL3.out.keep HO.out.2.2.2.2
   injection hv' with e1 e2 e3
   subst e1 e3
   obtain ⟨b1,o1,rfl,hb1,qx⟩:=hrd.at_ (k:=k) (u := .int .i8 x) (by rw [List.getElem?_map,hx];rfl)
   have hxr:=hx8 x (List.mem_of_getElem? hx)
   have q1:=(HBK.out.keep HO.out.2.2.2.2).cell 1
   simp only [List.getElem?_toArray,List.getElem?_cons_zero,List.getElem?_cons_succ] at q1
   have yk:(k:Int)<(xs.length:Int):=by omega
   have HKL:=Lib.hid (And.intro hk hlt)
   clear hx hrd hx8 hb1
   by_cases h6:k<6
   ·have y6:decide ((k:Int)<6)=true:=by simp;omega
    have y6b:(k:Int)<6:=by omega
    have HK6:=Lib.hid h6
    by_cases h0:x=0
    ·have y0:(x != 0)=false:=by simpa using h0
     have HO2:Hid (wr.ownsRow w3.heap.size 3 1 (.slice A ins.length c) ins.length (ci ins)∧(∀x∈ins,I64 x)∧ins.length≤6∧ins.length≤k+1∧Below w3.heap.size w3 wr):=Lib.hid ⟨HO.out.1,HO.out.2.1,HO.out.2.2.1,Nat.le_succ_of_le HO.out.2.2.2.1,HO.out.2.2.2.2⟩
     subst h0
     clear HO hxr y0 hk hlt h6
     go_wp2_with fail
     have hlt:=HKL.out.2
     go_roundw
     case rel=>exact ⟨k+1,by omega,by go_num,ins,A,c,rfl,HO2⟩
     case measure=>simp [intOf];omega
    ·have y0:(x != 0)=true:=by simpa using h0
     have y0b:decide (x=0)=false:=by simpa using h0
     have y0c:(x == 0)=false:=by simpa using h0
     have ym:¬((B:Int)+2=0):=by omega
     have HI:=Lib.hid (tmod_i64 (m:=(B:Int)+2) hxr)
     have hin:=HO.out.2.2.1
     clear h6
     go_wp2_with (at_builtin;refine wpList_append_own _ rfl _ _ 33 rfl w3.heap.size 3 iI (.int .i64 0) 1 8 Try.underlying33 hiI hzI0 hzI1 hzI2 rfl (by decide) _ _ _ rfl (HO.out.1.alloc _) ⟨wr.heap.size,0,none⟩ 1 1 [.int .i64 (x.tmod ((B:Int)+2))] rfl rfl ?pc1 ?pc2 ?pc3 ?pc4 ?pc5 ?_)
     case pc2=>rfl
     case pc3=>unfold maxLen;omega
     case pc4=>omega
     case pc5=>have:=HO.out.2.2.2.2.size;omega
     intro v' w2 hown' hgrow _
     obtain ⟨A2,cap2,hv2⟩:=owns_slice hown'
     subst hv2
     have HO2:Hid (w2.ownsRow w3.heap.size 3 1 (.slice A2 (ins++[x.tmod ((B:Int)+2)]).length cap2) (ins++[x.tmod ((B:Int)+2)]).length (ci (ins++[x.tmod ((B:Int)+2)]))∧(∀z∈ins++[x.tmod ((B:Int)+2)],I64 z)∧(ins++[x.tmod ((B:Int)+2)]).length≤6∧(ins++[x.tmod ((B:Int)+2)]).length≤k+1∧Below w3.heap.size w3 w2):=by
      have h6:=HK6.out
      have hik:=HO.out.2.2.2.1
      refine Lib.hid ⟨by rw [ci_app,List.length_append];exact hown',?_,by simp;omega,by simp;omega,(HO.out.2.2.2.2.alloc HO.out.2.2.2.2.size _).grown hgrow (by have:=HO.out.2.2.2.2.size;simp;omega) (fun g hg=>(HO.out.1.lt g hg).1)⟩
      intro z hz
      rcases List.mem_append.1 hz with hz|hz
      ·exact HO.out.2.1 z hz
      ·rw [List.mem_singleton.1 hz]
       exact HI.out
     clear hown' hgrow HO
     go_wp2_with fail
     have hlt:=HKL.out.2
     go_roundw
     case rel=>exact ⟨k+1,by omega,by go_num,ins++[x.tmod ((B:Int)+2)],A2,cap2,by simp,HO2⟩
     case measure=>simp [intOf];omega
   ·have y6:decide ((k:Int)<6)=false:=by simp;omega
    have y6b:¬((k:Int)<6):=by omega
    have HO2:Hid (wr.ownsRow w3.heap.size 3 1 (.slice A ins.length c) ins.length (ci ins)∧(∀x∈ins,I64 x)∧ins.length≤6∧ins.length≤k+1∧Below w3.heap.size w3 wr):=Lib.hid ⟨HO.out.1,HO.out.2.1,HO.out.2.2.1,Nat.le_succ_of_le HO.out.2.2.2.1,HO.out.2.2.2.2⟩
    clear HO hxr hk hlt h6
    go_wp2_with fail
    have hlt:=HKL.out.2
    go_roundw
    case rel=>exact ⟨k+1,by omega,by go_num,ins,A,c,rfl,HO2⟩
    case measure=>simp [intOf];omega
  ·obtain rfl:k=xs.length:=by omega
   have yk:¬(xs.length<xs.length):=by omega
   obtain ⟨o, -,hc1,hc2⟩:=prop_both (f:=f) (SmallF.valid HSM.out) hB (SmallF.lens HSM.out) ins (by have:=HO.out.2.2.1;omega)
   have HC1:=Lib.hid hc1
   have HC2:=Lib.hid hc2
   have HI0:Hid (Ints wr (.slice A ins.length c) ins):=Lib.hid (Own.ints ⟨HO.out.1,HO.out.2.1⟩)
   have HBW:=Lib.hid HO.out.2.2.2.2
   have hbk:=HBK.out.keep HBW.out
   have q0:=hbk.cell 0
   have q1:=hbk.cell 1
   have q2:=hbk.cell 2
   have q3:=hbk.cell 3
   simp only [List.getElem?_toArray,List.getElem?_cons_zero,List.getElem?_cons_succ] at q0 q1 q2 q3
   have HF4:=Lib.hid (HF3.out.keep HBW.out)
   rw [hB] at HF4
   have HBK4:=Lib.hid hbk
   clear hc1 hc2 HO hbk HBK HL3 HF3 hk hlt
   go_wp2_with fail
   refine (HC1.out wr _ _ HF4.out HI0.out).mono ?_
   rintro e w5 ⟨v1,rfl,ho1,hb5⟩
   have HV1:=Lib.hid (Own.ints ho1)
   have HB5:=Lib.hid hb5
   have hbk:=HBK4.out.keep hb5
   have HF5:=Lib.hid (HF4.out.keep hb5)
   have HI5:=Lib.hid (HI0.out.keep hb5)
   clear q0 q1 q2 q3
   have q0:=hbk.cell 0
   have q1:=hbk.cell 1
   have q2:=hbk.cell 2
   have q3:=hbk.cell 3
   simp only [List.getElem?_toArray,List.getElem?_cons_zero,List.getElem?_cons_succ] at q0 q1 q2 q3
   clear ho1 hb5 hbk HI0 HF4 HBK4
   go_wp2_with fail
   refine (HC2.out w5 _ _ HF5.out HI5.out).mono ?_
   rintro e w6 ⟨v2,rfl,ho2,hb6⟩
   have HV2:=Lib.hid (Own.ints ho2)
   have HV1b:=Lib.hid (HV1.out.keep hb6)
   have HB6:Hid (Below w.heap.size w w6):=Lib.hid ((HB3.out.trans (HBW.out.mono HB3.out.size)).trans ((HB5.out.trans (hb6.mono HB5.out.size)).mono (HB3.out.trans (HBW.out.mono HB3.out.size)).size))
   clear ho2 hb6 HV1 q0 q1 q2 q3 HF5 HI5 HC1 HC2
   generalize hbo:o.isSome=bo at *
   have ybo:(bo == bo)=true:=by simp
   clear hbo
   go_wp2_with fail
   refine (same_any _ _ _ _ _ HV1b.out HV2.out).mono ?_
   rintro e w7 ⟨rfl,n7,rfl⟩
   rw [decide_eq_true rfl]
   go_wp2_with fail
   refine (awake34 _).mono ?_
   rintro e w8 ⟨rfl,hb8⟩
   have HB8:=Lib.hid ((below_drewN HB6.out n7).trans (hb8.mono HB6.out.size))
   clear hb8
   go_wp2_with fail
   go_ret
   exact ⟨rfl,HB8.out⟩
end Go.Proofs.Yticieifacalocaa
