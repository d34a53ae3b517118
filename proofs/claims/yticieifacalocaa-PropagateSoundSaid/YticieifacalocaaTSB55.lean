/- LawPSo -/
import Derived.Test.YticieifacalocaaTSB51
import Derived.Test.YticieifacalocaaTSB54
namespace Go.Proofs.Yticieifacalocaa
open Go.RowKit
theorem prop_lits {f:Form} {B:Nat} (hv:validF f=0) (hb:f.bools=(B:Int)):∀g∈f.clauses,∀x∈g,litB B x=true:=by
 obtain ⟨N,hN⟩:∃N:Nat,f.ints=N:=⟨f.ints.toNat,by have:=(iP hv).2.1;omega⟩
 exact (lT hv hb hN).cs
theorem sgn_holds {bs:List Bool} {m:Nat} {t:Bool} (h:bs[m]? = some t):holds bs (if t=true then (m:Int)+1 else -((m:Int)+1))=true:=by
 cases t with
 | true=>rw [if_pos rfl,dY,List.getD_eq_getElem?_getD,h];rfl
 | false=>rw [if_neg (by simp),bA,h];rfl
set_option maxRecDepth 100000 in
set_option maxHeartbeats 4000000 in
theorem lawPSo (pv lv:Value) (a b c:Int) (L xs:List Int) (w:World) (hp:pX w pv a b c L) (hl:Byts w lv xs) :
  Calls Try.prog 13 #[pv,lv] w fun e w'=>e = .returned (.bool true)∧Below w.heap.size w w':=by
 obtain ⟨iI,hiI,hzI0,hzI1,hzI2⟩:=qB gL
 have HP:=Lib.hid hp
 obtain ⟨nv,rfl, -, -, -,hL⟩:=hp
 obtain ⟨An,cn,rfl, -, -, -, -⟩:=hL
 have HLL:=Lib.hid hl
 obtain ⟨Al,cl,rfl,hl1,hl2, -, -⟩:=hl
 unfold maxLen at hl2
 have HB:Hid (Below w.heap.size w (w.alloc (.cells #[.int .u8 a, .int .u8 b, .int .u8 c, .slice An L.length cn] 25))):=Lib.hid ((zO _ _).alloc (Nat.le_refl _) _)
 go_enter Try.func13,Try.ntmps13
 go_wp2_with fail
 generalize w.alloc (.cells #[.int .u8 a, .int .u8 b, .int .u8 c, .slice An L.length cn] 25)=W at *
 refine (small_any _ a b c L _ ?hp).mono ?_
 case hp=>obtain ⟨nv,e1,e2⟩:=HP.out;exact ⟨_,rfl,e2.1,e2.2.1,e2.2.2.1,by injection e1 with e1;simp only [Array.mk.injEq,List.cons.injEq,and_true,true_and] at e1;rw [e1];exact e2.2.2.2.keep HB.out⟩
 rintro e w2 ⟨fv,f,rfl,hf,hsm,hb2⟩
 obtain ⟨B,hB,hB1,hB2⟩:=SmallF.bools hsm
 have HB2:=Lib.hid (HB.out.trans (hb2.mono HB.out.size))
 have HF2:=Lib.hid hf
 have HSM:=Lib.hid hsm
 obtain ⟨av,cv,rfl, -, -,hf3,hf4⟩:=hf
 obtain ⟨Aa,ca,rfl, -, -, -, -⟩:=hf3
 obtain ⟨Ac,cc,vs,rfl, -, -, -, -, -⟩:=hf4
 clear hb2 hsm HB HP
 have HBK:=Lib.hid (Blk.new w2 29 #[.int .i64 f.ints, .int .i64 (B:Int), .slice Aa f.atoms.length ca, .slice Ac f.clauses.length cc])
 have hb3:Below w2.heap.size w2 (w2.alloc (.cells #[.int .i64 f.ints, .int .i64 (B:Int), .slice Aa f.atoms.length ca, .slice Ac f.clauses.length cc] 29)):=(zO _ _).alloc (Nat.le_refl _) _
 have HF3:=Lib.hid (HF2.out.keep hb3)
 have HB3:=Lib.hid (HB2.out.trans (hb3.mono HB2.out.size))
 have HL3:=Lib.hid (HLL.out.keep HB3.out)
 rw [hB] at HF3
 clear hb3 HF2 HB2 HLL
 go_upto_region 2 with fail
 generalize w2.alloc (.cells #[.int .i64 f.ints, .int .i64 (B:Int), .slice Aa f.atoms.length ca, .slice Ac f.clauses.length cc] 29)=w3 at *
 generalize w2.heap.size=bk at *
 have q0:=HBK.out.cell 0
 have q1:=HBK.out.cell 1
 have q2:=HBK.out.cell 2
 have q3:=HBK.out.cell 3
 simp only [zA,zB,zC] at q0 q1 q2 q3
 go_wp2_with fail
 have HFX:Hid (IsForm w3 (.agg #[.int .i64 f.ints, .int .i64 (B:Int), .slice Aa f.atoms.length ca, .slice Ac f.clauses.length cc]) f):=HF3
 clear q0 q1 q2 q3
 refine (nT _ f _ HF3.out HSM.out.q HSM.out.ten).mono ?_
 rintro e w4 ⟨hb4,⟨gv,l,rfl, -, -, -, -⟩|⟨bv,iv,bs,ys,rfl,hB4,hX4,hbl, -, -,hcls, -⟩⟩
 ·have HB4:=Lib.hid (HB3.out.trans (hb4.mono HB3.out.size))
  have hb5:Below w4.heap.size w4 (w4.alloc (.cells #[.slice none 0 0, .slice none 0 0] 35)):=(zO _ _).alloc (Nat.le_refl _) _
  have HB5:=Lib.hid (HB4.out.trans (hb5.mono HB4.out.size))
  clear hb4 hb5 HB4
  go_upto_region 3 with fail
  generalize w4.alloc (.cells #[.slice none 0 0, .slice none 0 0] 35)=w5 at *
  go_wp2_with fail
  refine (awake34 _).mono ?_
  rintro e w8 ⟨rfl,hb8⟩
  have HB8:=Lib.hid (HB5.out.trans (hb8.mono HB5.out.size))
  clear hb8
  go_wp2_with fail
  go_ret
  exact ⟨rfl,HB8.out⟩
 ·have HB4:=Lib.hid (HB3.out.trans (hb4.mono HB3.out.size))
  have HMB4:=Lib.hid hB4
  have HCLS:=Lib.hid hcls
  obtain ⟨Amb,cmb,rfl,hm1,hm2, -⟩:=hB4
  unfold maxLen at hm2
  obtain ⟨Amx,cmx,rfl, -, -, -, -⟩:=hX4
  have hb5:Below w4.heap.size w4 (w4.alloc (.cells #[.slice Amb bs.length cmb, .slice Amx ys.length cmx] 35)):=(zO _ _).alloc (Nat.le_refl _) _
  have HB5:=Lib.hid (HB4.out.trans (hb5.mono HB4.out.size))
  have HMB5:=Lib.hid (HMB4.out.keep hb5)
  have HMK5:=Lib.hid (Blk.new w4 35 #[.slice Amb bs.length cmb, .slice Amx ys.length cmx])
  have HBK5:=Lib.hid ((HBK.out.keep hb4).keep hb5)
  have HF5:=Lib.hid ((HFX.out.keep hb4).keep hb5)
  have HL5:=Lib.hid ((HL3.out.keep hb4).keep hb5)
  clear hb4 hcls hb5 HB4 HMB4 HB3 HBK HF3 HFX HL3
  go_upto_region 3 with fail
  generalize w4.alloc (.cells #[.slice Amb bs.length cmb, .slice Amx ys.length cmx] 35)=w5 at *
  generalize w4.heap.size=mk at *
  go_upto_region 6 with fail
  go_wp2_with fail
  go_loopw [9,30] (fun v i wr=>∃k:Nat,k≤xs.length∧i = .int .i64 (k:Int)∧∃(ins:List Int) (A:Option Addr) (c:Nat),v = .slice A ins.length c∧Hid (wr.ownsRow w5.heap.size 3 1 (.slice A ins.length c) ins.length (ci ins)∧(∀z∈ins,I64 z∧litB B z=true∧holds bs z=true)∧ins.length≤5∧ins.length≤k∧Below w5.heap.size w5 wr)) (fun _ i _=>xs.length-(intOf i).toNat)
  case atStart=>exact ⟨0,zQ _,rfl,[],none,0,rfl,Lib.hid ⟨zX _ _ _ _,by simp,by simp,by simp,zO _ _⟩⟩
  case round =>
   obtain ⟨k,hk,rfl,ins,A,c,rfl,HO⟩:=hrel
   by_cases hlt:k<xs.length
   ·obtain ⟨x,hx⟩:∃x,xs[k]? = some x:=⟨_,List.getElem?_eq_getElem hlt⟩
    obtain ⟨A',c',hv', -, -,hx8,hrd⟩:=HL5.out.keep HO.out.2.2.2.2
    injection hv' with e1 e9 e3
    clear e9
    subst e1 e3
    obtain ⟨b1,o1,rfl,hb1,qx⟩:=hrd.at_ (k:=k) (u := .int .u8 x) (by rw [List.getElem?_map,hx];rfl)
    have hxr:=hx8 x (List.mem_of_getElem? hx)
    have hxr1:=hxr.1
    have hxr2:=hxr.2
    have q1:=(HBK5.out.keep HO.out.2.2.2.2).cell 1
    simp only [zA,zB,zC] at q1
    obtain ⟨m,hm⟩:∃m:Nat,x.tmod (B:Int)=(m:Int):=⟨(x.tmod (B:Int)).toNat,by have:=Int.tmod_nonneg (B:Int) hxr1;omega⟩
    have hmB:m<B:=by have:=Int.tmod_lt_of_pos x (b:=(B:Int)) (by omega);omega
    have yB:¬((B:Int)=0):=by omega
    have HKL:=Lib.hid (And.intro hk hlt)
    clear hx hrd hx8 hb1 hxr
    by_cases h5:k<5
    ·have y6:decide ((k:Int)<5)=true:=by simp;omega
     have y6b:(k:Int)<5:=by omega
     have HK5:=Lib.hid h5
     obtain ⟨t,ht⟩:∃t,bs[m]? = some t:=⟨_,List.getElem?_eq_getElem (by omega)⟩
     have HT:=Lib.hid (sgn_holds ht)
     obtain ⟨A',c',hv', -, -,hrd⟩:=HMB5.out.keep HO.out.2.2.2.2
     injection hv' with e1 e9 e3
     clear e9
     subst e1 e3
     obtain ⟨b2,o2,rfl,hb2,qt⟩:=hrd.bool ht
     have p0:=(HMK5.out.keep HO.out.2.2.2.2).cell 0
     simp only [zA,zB] at p0
     have hmb:m<bs.length:=by omega
     have hin:=HO.out.2.2.1
     clear hrd hb2 ht h5
     cases t with
     | true =>
      have HI:Hid (∀z∈ins++[(m:Int)+1],I64 z∧litB B z=true∧holds bs z=true):=by
       refine Lib.hid fun z hz => ?_
       rcases zI.1 hz with hz|hz
       ·exact HO.out.2.1 z hz
       ·rw [zH.1 hz]
        exact ⟨by constructor<;>omega,iE hmB,HT.out⟩
      go_wp2_with (at_builtin;refine yQ _ rfl _ _ 33 rfl w5.heap.size 3 iI (.int .i64 0) 1 8 Try.underlying33 hiI hzI0 hzI1 hzI2 rfl (by decide) _ _ _ rfl (HO.out.1.alloc _) ⟨wr.heap.size,0,none⟩ 1 1 [.int .i64 ((m:Int)+1)] rfl rfl ?pc1 ?pc2 ?pc3 ?pc4 ?pc5 ?_)
      case pc2=>rfl
      case pc3=>unfold maxLen;omega
      case pc4=>omega
      case pc5=>have:=HO.out.2.2.2.2.size;omega
      intro v' w2 hown' hgrow _
      obtain ⟨A2,cap2,hv2⟩:=dQ hown'
      subst hv2
      have HO2:Hid (w2.ownsRow w5.heap.size 3 1 (.slice A2 (ins++[(m:Int)+1]).length cap2) (ins++[(m:Int)+1]).length (ci (ins++[(m:Int)+1]))∧(∀z∈ins++[(m:Int)+1],I64 z∧litB B z=true∧holds bs z=true)∧(ins++[(m:Int)+1]).length≤5∧(ins++[(m:Int)+1]).length≤k+1∧Below w5.heap.size w5 w2):=by
       have h5:=HK5.out
       have hik:=HO.out.2.2.2.1
       exact Lib.hid ⟨by rw [cD,zJ];exact hown',HI.out,by simp;omega,by simp;omega,(HO.out.2.2.2.2.alloc HO.out.2.2.2.2.size _).grown hgrow (by have:=HO.out.2.2.2.2.size;simp;omega) (fun g hg=>(HO.out.1.lt g hg).1)⟩
      clear hown' hgrow HO
      go_wp2_with fail
      have hlt:=HKL.out.2
      go_roundw
      case rel=>exact ⟨k+1,by omega,by go_num,ins++[(m:Int)+1],A2,cap2,by simp,HO2⟩
      case measure=>simp [intOf];omega
     | false =>
      have HI:Hid (∀z∈ins++[-((m:Int)+1)],I64 z∧litB B z=true∧holds bs z=true):=by
       refine Lib.hid fun z hz => ?_
       rcases zI.1 hz with hz|hz
       ·exact HO.out.2.1 z hz
       ·rw [zH.1 hz]
        exact ⟨by constructor<;>omega,eR hmB,HT.out⟩
      go_wp2_with (at_builtin;refine yQ _ rfl _ _ 33 rfl w5.heap.size 3 iI (.int .i64 0) 1 8 Try.underlying33 hiI hzI0 hzI1 hzI2 rfl (by decide) _ _ _ rfl (HO.out.1.alloc _) ⟨wr.heap.size,0,none⟩ 1 1 [.int .i64 (-((m:Int)+1))] rfl rfl (by intro j u hj;simpa [Addr.add_lit,World.cell?_alloc_new] using hj) (by intro u hu;rw [zH.1 hu];rfl) ?pd3 ?pd4 ?pd5 ?_)
      case pd3=>unfold maxLen;omega
      case pd4=>omega
      case pd5=>have:=HO.out.2.2.2.2.size;simp;omega
      intro v' w2 hown' hgrow _
      obtain ⟨A2,cap2,hv2⟩:=dQ hown'
      subst hv2
      have HO2:Hid (w2.ownsRow w5.heap.size 3 1 (.slice A2 (ins++[-((m:Int)+1)]).length cap2) (ins++[-((m:Int)+1)]).length (ci (ins++[-((m:Int)+1)]))∧(∀z∈ins++[-((m:Int)+1)],I64 z∧litB B z=true∧holds bs z=true)∧(ins++[-((m:Int)+1)]).length≤5∧(ins++[-((m:Int)+1)]).length≤k+1∧Below w5.heap.size w5 w2):=by
       have h5:=HK5.out
       have hik:=HO.out.2.2.2.1
       exact Lib.hid ⟨by rw [cD,zJ];exact hown',HI.out,by simp;omega,by simp;omega,(HO.out.2.2.2.2.alloc HO.out.2.2.2.2.size _).grown hgrow (by have:=HO.out.2.2.2.2.size;simp;omega) (fun g hg=>(HO.out.1.lt g hg).1)⟩
      clear hown' hgrow HO
      go_wp2_with fail
      have hlt:=HKL.out.2
      go_roundw
      case rel=>exact ⟨k+1,by omega,by go_num,ins++[-((m:Int)+1)],A2,cap2,by simp,HO2⟩
      case measure=>simp [intOf];omega
    ·have y6:decide ((k:Int)<5)=false:=by simp;omega
     have y6b:¬((k:Int)<5):=by omega
     have HO2:Hid (wr.ownsRow w5.heap.size 3 1 (.slice A ins.length c) ins.length (ci ins)∧(∀z∈ins,I64 z∧litB B z=true∧holds bs z=true)∧ins.length≤5∧ins.length≤k+1∧Below w5.heap.size w5 wr):=Lib.hid ⟨HO.out.1,HO.out.2.1,HO.out.2.2.1,xY HO.out.2.2.2.1,HO.out.2.2.2.2⟩
     clear HO h5
     go_wp2_with fail
     have hlt:=HKL.out.2
     go_roundw
     case rel=>exact ⟨k+1,by omega,by go_num,ins,A,c,rfl,HO2⟩
     case measure=>simp [intOf];omega
   ·obtain rfl:k=xs.length:=by omega
    have yk:¬(xs.length<xs.length):=by omega
    obtain ⟨o,hk,hc1, -⟩:=prop_both (f:=f) (SmallF.valid HSM.out) hB (SmallF.lens HSM.out) ins (by have:=HO.out.2.2.1;omega)
    obtain ⟨a',rfl,hall⟩:=hk.models (prop_lits (SmallF.valid HSM.out) hB) (fun z hz=>(HO.out.2.1 z hz).2) HCLS.out
    have hal:=hk.len
    have HAL:=Lib.hid hall
    have HC1:=Lib.hid hc1
    have HI0:Hid (Ints wr (.slice A ins.length c) ins):=Lib.hid (Own.ints ⟨HO.out.1,fun z hz=>(HO.out.2.1 z hz).1⟩)
    have HBW:=Lib.hid HO.out.2.2.2.2
    have hbk:=HBK5.out.keep HBW.out
    have q0:=hbk.cell 0
    have q1:=hbk.cell 1
    have q2:=hbk.cell 2
    have q3:=hbk.cell 3
    simp only [zA,zB,zC] at q0 q1 q2 q3
    have HF6:=Lib.hid (HF5.out.keep HBW.out)
    have HMB6:=Lib.hid (HMB5.out.keep HBW.out)
    have HMK6:=Lib.hid (HMK5.out.keep HBW.out)
    have HB6:=Lib.hid (HB5.out.trans (HBW.out.mono HB5.out.size))
    clear hk hall hc1 HO hlt hbk HBK5 HF5 HMB5 HMK5 HB5 HBW HL5 HCLS hm1
    go_wp2_with fail
    refine (HC1.out wr _ _ HF6.out HI0.out).mono ?_
    rintro e w7 ⟨v1,rfl,ho1,hb7⟩
    have HV1:Hid (Ints w7 v1 a'):=Lib.hid (Own.ints ho1)
    have HB7:=Lib.hid (HB6.out.trans (hb7.mono HB6.out.size))
    have HMB7:=Lib.hid (HMB6.out.keep hb7)
    have HMK7:=Lib.hid (HMK6.out.keep hb7)
    clear ho1 hb7 q0 q1 q2 q3 HC1 HI0 HF6 HMB6 HMK6 HB6
    obtain ⟨A1,c1,hv1, -, -, -, -⟩:=HV1.out
    subst hv1
    go_wp2_with fail
    go_loopw [67] (fun i wq=>∃k:Nat,k≤a'.length∧i = .int .i64 (k:Int)∧Hid (Below w7.heap.size w7 wq)) (fun i _=>a'.length-(intOf i).toNat)
    case atStart=>exact ⟨0,zQ _,rfl,Lib.hid (zO _ _)⟩
    case round =>
     obtain ⟨k,hk,rfl,HW⟩:=hrel
     by_cases hlt:k<a'.length
     ·obtain ⟨z,hz⟩:∃z,a'[k]? = some z:=⟨_,List.getElem?_eq_getElem hlt⟩
      obtain ⟨A',c',hv', -, -,hi,hrd⟩:=HV1.out.keep HW.out
      injection hv' with e1 e9 e3
      clear e9
      subst e1 e3
      obtain ⟨b1,o1,rfl,hb1,qz⟩:=hrd.int hz
      have HZ:=Lib.hid (And.intro (HAL.out z (List.mem_of_getElem? hz)) (hi z (List.mem_of_getElem? hz)))
      have HLT:=Lib.hid hlt
      have hbk:=HMK7.out.keep HW.out
      have p0:=hbk.cell 0
      have p1:=hbk.cell 1
      simp only [zA,zB,zC] at p0 p1
      clear hz hrd hb1 hi hbk
      go_wp2_with fail
      refine (rholds_any _ _ bs _ _ (HMB7.out.keep HW.out) HZ.out.2).mono ?_
      rintro e w9 ⟨rfl,hb9⟩
      rw [HZ.out.1]
      have HW9:=Lib.hid (HW.out.trans (hb9.mono HW.out.size))
      clear hb9 qz p0 p1
      go_wp2_with fail
      have hlt:=HLT.out
      go_roundw
      case rel=>exact ⟨k+1,by omega,by go_num,HW9⟩
      case measure=>simp [intOf];omega
     ·obtain rfl:k=a'.length:=by omega
      have yk:¬(a'.length<a'.length):=by omega
      have HB9:=Lib.hid (HB7.out.trans (HW.out.mono HB7.out.size))
      go_wp2_with fail
      refine (awake34 _).mono ?_
      rintro e w13 ⟨rfl,hb13⟩
      have HB13:=Lib.hid (HB9.out.trans (hb13.mono HB9.out.size))
      clear hb13
      go_wp2_with fail
      go_ret
      exact ⟨rfl,HB13.out⟩
end Go.Proofs.Yticieifacalocaa
