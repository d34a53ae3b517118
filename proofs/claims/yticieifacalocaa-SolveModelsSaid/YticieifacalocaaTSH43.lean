/- SolRft -/
import Derived.Test.YticieifacalocaaTSH42
import Derived.Test.YticieifacalocaaTSH38
namespace Go.Proofs.Yticieifacalocaa
open Go.RowKit
def unsStep (fuel:Nat) (p:Sol × List (Nat × Int)) (lit:Int):Option (Sol × List (Nat × Int)) :=
 if litB p.1.unt.length lit=true∧p.2.length<LIM then (dA fuel p.1 (vr lit)).map fun q=>(q.1,p.2++[(q.2, -lit)]) else none
theorem mB {fuel:Nat} {s:Sol} {conf:Nat} {l:List Stp} (h:refuteF fuel s conf=some l):conf<s.e.cls.length∧∃s1 ch s2,(s.e.cl conf).foldlM (unsStep fuel) (s,[])=some (s1,ch)∧s1.addF [] ⟨wF,conf,ch⟩=some s2∧s2.org.length=s2.e.cls.length∧(∀c,c<s2.org.length→∀o,s2.org[c]? = some o→orgOk s2.org.length o=true)∧(stepsF s2.org s1.e.cls.length).length<LIM∧l=stepsF s2.org s1.e.cls.length:=by
 unfold refuteF at h
 split at h
 ·rename_i hc
  refine ⟨hc,?_⟩
  split at h
  ·cases h
  ·rename_i s1 ch hf
   split at h
   ·cases h
   ·rename_i s2 ha
    split at h
    ·rename_i hh
     injection h with h
     exact ⟨s1,ch,s2,hf,ha,hh.1,hh.2.1,hh.2.2,h.symm⟩
    ·cases h
 ·cases h
def nQ (κ:Kap) (w:World) (l:List Stp) (en:Ending) (w':World):Prop :=
 ∃v κ',en = .returned v∧Stps w' v l∧Fr κ κ' w w' bJ
set_option maxRecDepth 100000 in
set_option maxHeartbeats 16000000 in
theorem fR {κ:Kap} {w:World} {g:Nat} {s:Sol} {V:EV} {U:SV} {n conf:Nat} {l:List Stp} (h:SolM κ w g s V U) (hq:refuteF n s conf=some l) (hst:∀x∈l,x.ok∧∀z∈x.lits,I64 z) :
  Calls Try.prog 40 #[.pointer (some ⟨g,0,none⟩), .int .i64 (conf:Int)] w (nQ κ w l):=by
 obtain ⟨iL,hiL,hzL0,hzL1,hzL2⟩:=qD fJ
 obtain ⟨hrc,s1,ch,s3,hfold,hadd,hol,hoo,hsl,hl⟩:=mB hq
 have q0:=h.eng.cellE (i:=0) rfl
 have hus:V.us.length=s.e.cls.length:=by have:=h.eng.cls.o.1;omega
 obtain ⟨u,hu⟩:∃u,V.us[conf]? = some u:=⟨_,List.getElem?_eq_getElem (by omega)⟩
 obtain ⟨gs,caps,hvs, -, -,hscap,hsm,hsc, -⟩:=h.eng.cls.open_ (by omega)
 have hcl:=h.eng.cl conf u hu
 obtain ⟨Ac,ccl,hua,hcc1,hcc2⟩:=hcl.shape
 subst hua
 have qc:=hsc conf _ hu
 rw [hvs] at q0
 have yr:(conf:Int)<(s.e.cls.length:Int):=by omega
 have HCL:=Lib.hid hcl
 have HS:=Lib.hid h
 unfold maxLen at hsm hcc2
 generalize hL:(s.e.cl conf).length=L at *
 have HLN:=Lib.hid hL
 have HFO:=Lib.hid hfold
 have HAD:=Lib.hid (And.intro hadd (And.intro hol (And.intro hoo (And.intro hsl hl))))
 have HST:=Lib.hid hst
 have HQC:Hid (∀w1,Below w.heap.size w w1→w1.cell? ⟨g,0,none⟩=some (.slice (some ⟨gs,0,none⟩) s.e.cls.length caps)∧w1.cell? ⟨gs,conf,none⟩=some (.slice Ac L ccl)):=Lib.hid fun w1 hb=>⟨(hb.cell (p:=⟨g,0,none⟩) HS.out.eng.blk.b.lt).trans q0,(hb.cell (p:=⟨gs,conf,none⟩) (vI w ⟨gs,conf,none⟩ qc)).trans qc⟩
 clear h hq hcl hu hus hsc hvs hrc hfold hadd hol hoo hsl hl hL hst q0 qc
 go_enter Try.func40,Try.ntmps40
 go_upto_region 2 with fail
 have f1:=Fr.make κ w (.cells #[.int .i64 0, .int .i64 0, .slice none 0 0, .int .i64 0, .int .i64 0, .int .i64 0, .int .i64 (conf:Int), .slice none 0 0] 94) (.tmp 0) (fun _=>False)
 have HU0:Hid (UnS κ w g U w.heap.size conf Ac L ccl (s.e.cl conf) 0 (kset κ w.heap.size (.tmp 0)) (w.alloc (.cells #[.int .i64 0, .int .i64 0, .slice none 0 0, .int .i64 0, .int .i64 0, .int .i64 0, .int .i64 (conf:Int), .slice none 0 0] 94)) s V U [] (.slice none 0 0) [] (.slice none 0 0)) :=
  Lib.hid ⟨HS.out.fr f1 fun _ _=>id,f1.mono fun _=>False.elim, .refl U,HB.new κ w (.tmp 0) _ _,Hold.nil _ _ _ _ _,Hold.nil _ _ _ _ _,HCL.out.fr f1 id,Nat.le_refl _,(fun j hj=>by cases hj),(fun j hj=>by cases hj),Nat.le_refl _,Nat.le_refl _⟩
 have q0:=(HQC.out _ ((zR w.heap.size w).alloc (Nat.le_refl _) (.cells #[.int .i64 0, .int .i64 0, .slice none 0 0, .int .i64 0, .int .i64 0, .int .i64 0, .int .i64 (conf:Int), .slice none 0 0] 94))).1
 have qc:=(HQC.out _ ((zR w.heap.size w).alloc (Nat.le_refl _) (.cells #[.int .i64 0, .int .i64 0, .slice none 0 0, .int .i64 0, .int .i64 0, .int .i64 0, .int .i64 (conf:Int), .slice none 0 0] 94))).2
 clear f1 HCL
 generalize w.alloc (.cells #[.int .i64 0, .int .i64 0, .slice none 0 0, .int .i64 0, .int .i64 0, .int .i64 0, .int .i64 (conf:Int), .slice none 0 0] 94)=W1 at *
 generalize kset κ w.heap.size (.tmp 0)=κ1 at *
 go_upto_region 3 with fail
 clear q0 qc
 have HFO0:Hid (((s.e.cl conf).drop 0).foldlM (unsStep n) (s,[])=some (s1,ch)):=HFO
 generalize hcl:s.e.cl conf=cl at *
 have HCLL:=Lib.hid hcl
 clear hcl HFO
 go_loopw [19] (fun i wr=>∃(k:Nat) (κ1:Kap) (t1:Sol) (V1:EV) (U1:SV) (ch1:List (Nat × Int)) (Av:Option Addr) (cv1:Nat),k≤L∧i = .int .i64 k ∧
  Hid (UnS κ w g U w.heap.size conf Ac L ccl cl k κ1 wr t1 V1 U1 [] (.slice none 0 0) ch1 (.slice Av ch1.length cv1)∧(cl.drop k).foldlM (unsStep n) (t1,ch1)=some (s1,ch))) (fun i _=>L-(intOf i).toNat)
 case atStart=>exact ⟨0,κ1,s,V,U,[],none,0,zQ _,rfl,Lib.hid ⟨HU0.out,HFO0.out⟩⟩
 case round =>
  clear HU0 HFO0
  obtain ⟨k,κ2,t1,V2,U2,ch1,Av,cv1,hk,rfl,HS2⟩:=hrel
  have hLc:cl.length=L:=HLN.out
  by_cases hlt:k<L
  ·obtain ⟨lit,hlit⟩:∃lit,cl[k]? = some lit:=⟨_,List.getElem?_eq_getElem (by omega)⟩
   have hdr:cl.drop k=lit::cl.drop (k+1):=by
    obtain ⟨h1,h2⟩:=zG.1 hlit
    rw [zT h1,h2]
   obtain ⟨hU,hfo⟩:=HS2.out
   rw [hdr,qW] at hfo
   obtain ⟨ga,ca,e1, -, -, -, -,hcc, -⟩:=hU.cl.open_ (by omega)
   injection e1 with e1 _ e2
   subst e1
   subst e2
   have ql:=hcc k _ (wU hlit)
   have yk:(k:Int)<(L:Int):=by omega
   unfold unsStep at hfo
   simp only at hfo
   by_cases hlb0:litB t1.unt.length lit=true∧ch1.length<LIM
   ·rw [if_pos hlb0] at hfo
    obtain ⟨hlb,hchl⟩:=hlb0
    obtain ⟨l0,l1⟩:=wN hlb
    have hB2:t1.unt.length≤1024:=by rw [hU.m.untl];exact hU.m.eng.B
    have hi:=wZ (by omega) hlb
    have HV:Hid (∀W,Calls Try.prog 64 #[.int .i64 lit] W fun e w'=>e = .returned (.int .i64 (vr lit:Nat))∧W=w'):=fun W=>gI lit l0 hi.1 hi.2 W
    have HKL:=Lib.hid (And.intro hk hlt)
    have HMX:Hid (ch1.length+1≤maxLen∧(ch1.length+1) * 16≤140737488355328):=by refine Lib.hid ?_;unfold LIM at hchl;unfold maxLen;omega
    cases hun:dA n t1 (vr lit) with
    | none=>rw [hun] at hfo;cases hfo
    | some q =>
    obtain ⟨t2,c2⟩:=q
    rw [hun] at hfo
    have hfo:(cl.drop (k+1)).foldlM (unsStep n) (t2,ch1++[(c2, -lit)])=some (s1,ch):=hfo
    have HFO2:=Lib.hid hfo
    have HUU:=Lib.hid hU
    have HUC:=Lib.hid (oU n κ2 wr.drew t1 V2 U2 (vr lit) t2 c2 (hU.m.drewN 1) hun)
    have HOC:Hid (∀u∈([.int .i64 (c2:Int), .int .i64 (-lit)]:List Value),u.oneCell'=true):=Lib.hid (by intro u hu;simp at hu;rcases hu with rfl|rfl<;>rfl)
    have HUR:Hid (∀vu wu,wP κ2 wr.drew g U2 bJ (.int .i64 (c2:Int)) t2 (.returned vu) wu→vu = .int .i64 (c2:Int)∧(wu.cell? ⟨w.heap.size,7,none⟩=some (.slice Av ch1.length cv1)∧(wu.alloc (.cells #[.int .i64 (c2:Int), .int .i64 (-lit)] 115)).cell? ⟨w.heap.size,7,none⟩=some (.slice Av ch1.length cv1)∧(wu.alloc (.cells #[.int .i64 (c2:Int), .int .i64 (-lit)] 115)).ownsRow 0 115 2 (.slice Av ch1.length cv1) ch1.length (aC ch1) ∧
      ∀v' w2,w2.ownsRow 0 115 2 v' (ch1.length+1) (aC ch1++[.int .i64 (c2:Int), .int .i64 (-lit)])→(wu.alloc (.cells #[.int .i64 (c2:Int), .int .i64 (-lit)] 115)).grownBy w2 (Value.slice Av ch1.length cv1).ownBlock→(v'.ownBlock=(Value.slice Av ch1.length cv1).ownBlock∨v'.ownBlock=some (wu.alloc (.cells #[.int .i64 (c2:Int), .int .i64 (-lit)] 115)).heap.size) →
       w2.frozen? ⟨w.heap.size,7,none⟩=false∧w2.cell? ⟨w.heap.size,7,none⟩=some (.slice Av ch1.length cv1)∧∃κ4,∃V4 U4,UnS κ w g U w.heap.size conf (some ⟨ga,0,none⟩) L ccl cl (k+1) κ4 (w2.setCell ⟨w.heap.size,7,none⟩ v') t2 V4 U4 [] (.slice none 0 0) (ch1++[(c2, -lit)]) v')):=by
     refine Lib.hid fun vu wu hu => ?_
     obtain ⟨hv9,κ3,V3,U3,hm3,hf3,hsm3⟩:=hu
     injection hv9 with hv9
     have hU3:=(HUU.out.drewN 1).call hm3 hf3 hsm3
     refine ⟨hv9,hU3.o.cell 7,(hU3.o.b.alloc _).cell 7,hU3.hc.o.alloc _,fun v' w2 k1 k2 k3 => ?_⟩
     obtain ⟨z,y,κ4,h4⟩:=hU3.link (q:=(c2, -lit)) k1 k2 k3
     exact ⟨z,y,κ4,V3,U3,h4⟩
    have q7:=HUU.out.o.cell 7
    simp only [zA,zB,zC] at q7
    have yn:IntKind.i64.wrap (-lit) = -lit:=by rw [qS];omega
    clear hfo hU hdr hlit hcc hlb hchl l0 l1 hi hB2 HS2 hk hlt hLc hun
    go_upto_region 5 with fail
    go_region_law (first|(refine wC rfl 64 _ _ rfl _ Try.func64 (by kernel_rfl) (by kernel_rfl) #[.int .i64 lit] (by first|rfl|(simp [Act.eval];done)|(simp [Act.eval,Act.put];done)) (HV.out _) (fun e w' h=>⟨_,h.1⟩) ?_;rintro v9 w9 ⟨hv9,rfl⟩;injection hv9 with hv9;subst hv9)|(refine wC rfl 63 _ _ rfl _ Try.func63 (by kernel_rfl) (by kernel_rfl) #[.pointer (some ⟨g,0,none⟩), .int .i64 (vr lit:Nat)] (by first|rfl|(simp [Act.eval];done)|(simp [Act.eval,Act.put];done)) HUC.out (fun e w' h=>⟨_,h.1⟩) ?_;intro vu wu hu;obtain ⟨hv9,hK⟩:=HUR.out vu wu hu;subst hv9;have HK:=Lib.hid hK;clear hK;have ca0:=HK.out.1;have ca1:=HK.out.2.1)|(refine jZ rfl (.tmp 24) (.tmp 32) 92 rfl 0 115 iL (.agg #[.int .i64 0, .int .i64 0]) 2 16 Try.underlying92 hiL hzL0 hzL1 hzL2 rfl (by decide) (.slice Av ch1.length cv1) ch1.length (aC ch1) (by first|rfl|(simp [Act.eval];done)|(simp [Act.eval,Act.put];done)) HK.out.2.2.1 ⟨wu.heap.size,0,none⟩ 1 1 [.int .i64 (c2:Int), .int .i64 (-lit)] (by first|rfl|(simp [Act.eval];done)|(simp [Act.eval,Act.put];done)) rfl (wY wu 115 [.int .i64 (c2:Int), .int .i64 (-lit)] rfl) HOC.out HMX.out.1 HMX.out.2 (zQ _) ?_;intro v' w2 hown hg hat;obtain ⟨A',c',hv', -, -, -⟩:=wB hown;subst hv';obtain ⟨z7,y7,κ4,V4,U4,hU4⟩:=HK.out.2.2.2 _ w2 hown hg hat;have HU4:=Lib.hid hU4;clear hown hg hat hU4))
    all_goals
     clear z7 y7 q7 ca0 ca1
     have HN:Hid (UnS κ w g U w.heap.size conf (some ⟨ga,0,none⟩) L ccl cl (k+1) κ4 (w2.setCell ⟨w.heap.size,7,none⟩ (.slice A' (ch1.length+1) c')) t2 V4 U4 [] (.slice none 0 0) (ch1++[(c2, -lit)]) (.slice A' (ch1++[(c2, -lit)]).length c')∧(cl.drop (k+1)).foldlM (unsStep n) (t2,ch1++[(c2, -lit)])=some (s1,ch)):=Lib.hid ⟨by rw [zJ];exact HU4.out,HFO2.out⟩
     obtain ⟨hk,hlt⟩:=HKL.out
     clear HU4 HK HUR HUC HUU yn ql
     generalize w2.setCell ⟨w.heap.size,7,none⟩ (.slice A' (ch1.length+1) c')=W9 at *
     go_wp2_with fail
     go_roundw
     case rel=>exact ⟨k+1,κ4,t2,V4,U4,ch1++[(c2, -lit)],A',c',by omega,by go_num,HN⟩
     case measure=>simp [intOf];omega
   ·rw [if_neg hlb0] at hfo;cases hfo
  ·have hkl:k=L:=by omega
   subst hkl
   obtain ⟨hU,hfo⟩:=HS2.out
   rw [qY (by omega)] at hfo
   injection hfo with hfo
   injection hfo with e1 e2
   subst e1 e2
   have yk:¬(k<k):=by omega
   obtain ⟨hadd,hol,hoo,hsl,hl⟩:=HAD.out
   unfold Sol.addF at hadd
   split at hadd
   ·rename_i hlim
    injection hadd with hadd
    obtain ⟨κb,hb1,hb2,hb3⟩:=hU.hc.repaint (.och t1.org.length)
    have keep:∀c,c ≠ .tmp 2→∀j,κ2 j=some c→κb j=some c:=fun c n2 j hj=>by
     rw [hb2 j (by rw [hj];simpa using n2)];exact hj
    have HSb:=Lib.hid (hU.m.rc (κ':=κb) fun c hc=>keep c (fun e=>by subst e;exact hc))
    have HOb:=Lib.hid (hU.o.rc (κ':=κb) (keep _ (by simp)))
    have HHb:=Lib.hid hb1
    have HFb:Hid (Fr κ κb w wr bJ):=Lib.hid (hU.f.recol fun j hj=>by
     rw [hb3 j (fun e=>by have:=hU.n2 j e;omega)])
    have hadd2:=iG (xs:=[]) (o:=⟨wF,conf,ch1⟩) (p:=(.slice none 0 0, .slice Av ch1.length cv1)) HSb.out (Hold.nil _ _ _ _ _) (Hold.nil _ _ _ _ _) HHb.out hlim.1 hlim.2
    have HADD:Hid (Calls Try.prog 66 #[.pointer (some ⟨g,0,none⟩), .slice none 0 0, .agg #[.int .i64 0, .int .i64 0, .slice none 0 0, .int .i64 0, .int .i64 0, .int .i64 0, .int .i64 (conf:Int), .slice Av ch1.length cv1]] wr (wP κb wr g U2 lM (.int .i64 (t1.e.cls.length:Int)) s3)):=Lib.hid (by rw [←hadd];exact hadd2)
    have hc3:s3.e.cls.length=t1.e.cls.length+1:=by rw [←hadd];simp
    have HOL3:Hid (t1.e.cls.length+1=s3.org.length∧s3.org.length≤LIM):=Lib.hid ⟨by rw [hol,hc3],by rw [hol,hc3];have:=hlim.1;have:=hlim.2;omega⟩
    have HRES:=Lib.hid (And.intro hoo (And.intro hsl hl))
    have o0:=HOb.out.cell 0
    have o1:=HOb.out.cell 1
    have o2:=HOb.out.cell 2
    have o3:=HOb.out.cell 3
    have o4:=HOb.out.cell 4
    have o5:=HOb.out.cell 5
    have o6:=HOb.out.cell 6
    have o7:=HOb.out.cell 7
    simp only [zA,zB,zC] at o0 o1 o2 o3 o4 o5 o6 o7
    clear hU HS2 hlt hk hLc hb1 hb2 hb3 keep hadd2 hadd hlim hol hoo hsl hl hc3 HAD
    go_wp2_with fail
    refine HADD.out.mono ?_
    rintro en wu ⟨rfl,κ5,V5,U5,hm5,hf5, -⟩
    have HSTP:=Lib.hid (steps_any hm5 HOL3.out.1 HRES.out.1 HRES.out.2.1 HOL3.out.2 (by rw [←HRES.out.2.2];exact HST.out))
    have HF5:Hid (Fr κ κ5 w wu bJ):=Lib.hid (HFb.out.trans (hf5.mono fun c hc=>pW hc))
    clear hm5 hf5 HADD o0 o1 o2 o3 o4 o5 o6 o7 HSb HOb HHb HFb
    go_wp2_with fail
    refine HSTP.out.mono ?_
    rintro en w9 ⟨v9,rfl,hv9,hb9⟩
    have HFIN:Hid (nQ κ w l (.returned v9) w9):=Lib.hid ⟨v9,κ5,rfl,by rw [HRES.out.2.2];exact hv9,HF5.out.trans (Fr.kept κ5 hb9 bJ)⟩
    clear hv9 hb9 HSTP HF5
    go_wp2_with fail
    go_ret
    exact HFIN.out
   ·cases hadd
end Go.Proofs.Yticieifacalocaa
