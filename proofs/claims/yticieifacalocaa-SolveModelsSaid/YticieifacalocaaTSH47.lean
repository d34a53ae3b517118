/- SolLrn -/
import Derived.Test.YticieifacalocaaTSH46
namespace Go.Proofs.Yticieifacalocaa
open Go.RowKit
section
variable {κ:Kap} {w:World} {g:Nat} {s:Sol} {V:EV} {U:SV}
set_option maxRecDepth 100000 in
set_option maxHeartbeats 32000000 in
theorem learn_any {f:Form} {n conf:Nat} {s2:Sol} (h:SolM κ w g s V U) (hd:DU κ w U.av f.atoms) (hC:∀d∈f.atoms, -9223372036854775807≤d.c) (hq:learnF n f s conf=some s2) :
  Calls Try.prog 60 #[.pointer (some ⟨g,0,none⟩), .int .i64 (conf:Int)] w (wP κ w g U wO (.tuple #[]) s2):=by
 obtain ⟨iI,hiI,hzI0,hzI1,hzI2⟩:=qD wV
 obtain ⟨iL,hiL,hzL0,hzL1,hzL2⟩:=qD fJ
 obtain ⟨hcl,hall,hlen,K,P,CH,s1,CH2,hscan,huns,hins⟩:=eU hq
 have hB:=h.eng.B
 have HD:=Lib.hid (And.intro hd hC)
 have HCF:=Lib.hid (And.intro hcl (And.intro hall hlen))
 have HUN:=Lib.hid huns
 have HIN:=Lib.hid hins
 have HSC:=Lib.hid hscan
 have HH0:Hid (LH κ w g s V U κ w []):=Lib.hid ⟨h,Fr.refl _ _ _,by simp⟩
 have hmf:∀(fn:Fn) (first cap:Array Value) (W:World),(Instr.makeFunc fn first cap).run Try.prog W = .ok (.func fn first cap) W:=fun _ _ _ _=>rfl
 have q3:∀κx wx L,LH κ w g s V U κx wx L→wx.cell? ⟨g,3,none⟩=some (.slice (some ⟨V.gv,0,none⟩) s.e.val.length s.e.val.length):=fun κx wx L h=>h.m.eng.cellE (i:=3) rfl
 generalize hBB:s.e.val.length=B at hB q3 HSC
 have HBL:=Lib.hid hBB
 have mk:=eM B (by unfold LIM;omega)
 have HQ3:=Lib.hid q3
 clear h hd hC hq hcl hall hlen hscan huns hins hBB q3
 go_enter Try.func60,Try.ntmps60
 go_upto_region 1 with fail
 have HH1:=Lib.hid (HH0.out.make 0 77 #[.pointer (some ⟨g,0,none⟩)])
 clear HH0
 generalize kset κ w.heap.size (.tmp 0)=κ1 at HH1
 generalize w.alloc (.cells #[.pointer (some ⟨g,0,none⟩)] 77)=W1 at *
 generalize w.heap.size=bs at *
 go_upto_region 2 with fail
 have HH2:=Lib.hid (HH1.out.make 1 94 #[.int .i64 0, .int .i64 0, .slice none 0 0, .int .i64 0, .int .i64 0, .int .i64 0, .int .i64 (conf:Int), .slice none 0 0])
 clear HH1
 generalize kset κ1 W1.heap.size (.tmp 1)=κ2 at HH2
 generalize W1.alloc (.cells #[.int .i64 0, .int .i64 0, .slice none 0 0, .int .i64 0, .int .i64 0, .int .i64 0, .int .i64 (conf:Int), .slice none 0 0] 94)=W2 at *
 generalize W1.heap.size=bo at *
 have qb:=(HH2.out.b _ (.tail _ (.head _))).1.cell 0
 simp only [zA,zB] at qb
 have q3:=HQ3.out _ _ _ HH2.out
 go_upto_region 3 with fail
 have hh3:=(HH2.out.make 3 4 (cbs (List.replicate B false)).toArray).make 2 32 #[.slice (some ⟨W2.heap.size,0,none⟩) B B]
 rw [show (W2.alloc (.cells (cbs (List.replicate B false)).toArray 4)).heap.size=W2.heap.size+1 by simp] at hh3
 have HH3:=Lib.hid hh3
 clear hh3 HH2 qb q3 mk
 generalize kset (kset κ2 W2.heap.size (.tmp 3)) (W2.heap.size+1) (.tmp 2)=κ3 at HH3
 generalize (W2.alloc (.cells (cbs (List.replicate B false)).toArray 4)).alloc (.cells #[.slice (some ⟨W2.heap.size,0,none⟩) B B] 32)=W3 at *
 generalize W2.heap.size+1=be at *
 generalize W2.heap.size=bq at *
 go_upto_region 4 with fail
 have hh4:=(HH3.out.make 4 33 #[.slice none 0 0]).make 5 33 #[.slice none 0 0]
 rw [show (W3.alloc (.cells #[.slice none 0 0] 33)).heap.size=W3.heap.size+1 by simp] at hh4
 have HH4:=Lib.hid hh4
 clear hh4 HH3
 generalize kset (kset κ3 W3.heap.size (.tmp 4)) (W3.heap.size+1) (.tmp 5)=κ4 at HH4
 generalize (W3.alloc (.cells #[.slice none 0 0] 33)).alloc (.cells #[.slice none 0 0] 33)=W4 at *
 generalize W3.heap.size+1=bf at *
 generalize W3.heap.size=bc at *
 go_upto_region 5 with fail
 have HH5:=Lib.hid (HH4.out.make 6 3 #[.int .i64 0])
 clear HH4
 generalize kset κ4 W4.heap.size (.tmp 6)=κ5 at HH5
 generalize W4.alloc (.cells #[.int .i64 0] 3)=W5 at *
 generalize W4.heap.size=bn at *
 have HL5:Hid (LnS κ w g U ⟨bs,bo,be,bq,bc,bf,bn,conf⟩ κ5 W5 s V U ⟨s.acty,List.replicate B false,[],[],0⟩ (.slice none 0 0) (.slice none 0 0) (.slice none 0 0) []):=by
  have hb:=HH5.out.b
  refine Lib.hid ⟨HH5.out.m,HH5.out.f, .refl U,(hb _ (.tail _ (.tail _ (.tail _ (.tail _ (.tail _ (.tail _ (.head _)))))))).1,(hb _ (.tail _ (.tail _ (.tail _ (.tail _ (.tail _ (.head _))))))).1,?_,(hb _ (.tail _ (.tail _ (.tail _ (.tail _ (.head _)))))).1,(hb _ (.tail _ (.tail _ (.head _)))).1,(hb _ (.tail _ (.head _))).1,(hb _ (.head _)).1,Hold.nil _ _ _ _ _,Hold.nil _ _ _ _ _,Hold.nil _ _ _ _ _,?_,(fun j hj=>by cases hj),(fun j hj=>by cases hj),(fun j hj=>by cases hj)⟩
  ·rw [HBL.out];exact (hb _ (.tail _ (.tail _ (.tail _ (.head _))))).1
  ·intro b hbm
   simp only [zV,vS,jX] at hbm
   rcases hbm with rfl|rfl|rfl|rfl|rfl|rfl|rfl
   ·exact (hb _ (.tail _ (.tail _ (.tail _ (.tail _ (.tail _ (.tail _ (.head _)))))))).2
   ·exact (hb _ (.tail _ (.tail _ (.tail _ (.tail _ (.tail _ (.head _))))))).2
   ·exact (hb _ (.tail _ (.tail _ (.tail _ (.head _))))).2
   ·exact (hb _ (.tail _ (.tail _ (.tail _ (.tail _ (.head _)))))).2
   ·exact (hb _ (.tail _ (.tail _ (.head _)))).2
   ·exact (hb _ (.tail _ (.head _))).2
   ·exact (hb _ (.head _)).2
 clear HH5 HQ3
 have HCO:Hid (∀(κx:Kap) (wx:World) (p:Lrn) (cv fv hv:Value) (ch:List (Nat × Int)) (c:Nat),LnS κ w g U ⟨bs,bo,be,bq,bc,bf,bn,conf⟩ κx wx s V U p cv fv hv ch→c<s.e.cls.length→(s.e.cl c).all (litB s.e.val.length)=true→(s.e.cl c).length<LIM→(0≤p.opn∧p.opn≤LIM)→LpB s.e.val.length p →
   Calls Try.prog 82 #[.int .i64 (c:Int), .pointer (some ⟨bs,0,none⟩), .pointer (some ⟨be,0,none⟩), .pointer (some ⟨bn,0,none⟩), .pointer (some ⟨bf,0,none⟩), .pointer (some ⟨bc,0,none⟩)] wx (sJ κ w g U ⟨bs,bo,be,bq,bc,bf,bn,conf⟩ s V U (wE s.e.lvl s.e.st.length p (s.e.cl c)) hv ch)) :=
  Lib.hid fun κx wx p cv fv hv ch c h1 h2 h3 h4 h5 h6=>rA (T:=⟨bs,bo,be,bq,bc,bf,bn,conf⟩) h1 h2 h3 h4 h5 h6
 have HC5:=Lib.hid (HCO.out κ5 W5 _ _ _ _ _ conf HL5.out HCF.out.1 HCF.out.2.1 HCF.out.2.2 ⟨yM 0,by unfold LIM;simp⟩ (by rw [HBL.out];exact lpb_new B s.acty))
 have HLP:Hid (LpB s.e.val.length (wE s.e.lvl s.e.st.length ⟨s.acty,List.replicate B false,[],[],0⟩ (s.e.cl conf))):=by
  have:=HCF.out.2.1
  rw [qH] at this
  exact Lib.hid (eE _ _ (by rw [HBL.out];exact lpb_new B s.acty) this)
 generalize wE s.e.lvl s.e.st.length ⟨s.acty,List.replicate B false,[],[],0⟩ (s.e.cl conf)=p0 at HSC HC5 HLP
 clear HL5
 go_wp2_with fail
 refine HC5.out.mono ?_
 rintro en W6 ⟨rfl,κ6,cv6,fv6,h6⟩
 have HL6:=Lib.hid h6
 clear HC5 hmf
 obtain ⟨j0,hj0, -⟩:=dR HSC.out
 obtain ⟨gt,ct,hvt, -, -,ht1,ht2, -, -⟩:=h6.m.eng.tr.open_ (by simp only;omega)
 simp only at hvt ht1 ht2
 unfold maxLen at ht2
 have qb:=h6.sb.cell 0
 have q6:W6.cell? ⟨g,6,none⟩=some V.vt:=h6.m.eng.cellE (i:=6) rfl
 rw [hvt] at q6
 simp only [zA,zB] at qb
 generalize hT:s.e.tr.length=T at *
 have HCE:Hid (∀(κx:Kap) (wx:World) (a:List Int),SolM κx wx g { s with acty:=a } V U→wx.cell? ⟨g,4,none⟩=some (.slice (some ⟨V.gr,0,none⟩) B B)∧wx.cell? ⟨g,6,none⟩=some (.slice (some ⟨gt,0,none⟩) T ct)∧(∀j,j<T→wx.cell? ⟨gt,j,none⟩=some (.int .i64 (s.e.tr.getD j 0)))∧∀v,v<B→wx.cell? ⟨V.gr,v,none⟩=some (.int .i64 (s.e.rsn.getD v 0))):=by
  refine Lib.hid fun κx wx a hm=>⟨?_,?_,fun j hj => ?_,fun v hv=>hm.eng.rsnAt (by show v<s.e.val.length;rw [HBL.out];exact hv)⟩
  ·have:=hm.eng.cellE (i:=4) rfl
   simp only at this
   rw [HBL.out] at this
   exact this
  ·have:wx.cell? ⟨g,6,none⟩=some V.vt:=hm.eng.cellE (i:=6) rfl
   rw [hvt] at this
   exact this
  ·obtain ⟨ga,ca,e1, -, -, -, -,hcc, -⟩:=hm.eng.tr.open_ (by show 0<s.e.tr.length;omega)
   rw [hvt] at e1
   injection e1 with e1 _ _
   injection e1 with e1
   injection e1 with e1 _ _
   subst e1
   exact hcc j _ (wU (getD_at (by show j<s.e.tr.length;omega)))
 have HTJ:=Lib.hid hj0
 have HVT:=Lib.hid (And.intro hvt hT)
 have yT:1≤T:=by omega
 clear h6 hvt hj0 hT
 go_wp2_with fail
 clear qb q6
 have hj0:=HTJ.out
 go_loopw [10] (fun i wr=>∃(j:Nat) (κ1:Kap) (p:Lrn) (cv fv:Value) (Ah:Option Addr) (ch:List (Nat × Int)) (chc:Nat),j<T∧i = .int .i64 (j:Int)∧Hid (LnS κ w g U ⟨bs,bo,be,bq,bc,bf,bn,conf⟩ κ1 wr s V U p cv fv (.slice Ah ch.length chc) ch∧LpB B p∧dK s.e (j+1) p ch=some (K,P,CH))) (fun i _=>(intOf i).toNat)
 case atStart=>exact ⟨j0,κ6,p0,cv6,fv6,none,[],0,by omega,by go_num,Lib.hid ⟨HL6.out,by rw [←HBL.out];exact HLP.out,by rw [←hj0];exact HSC.out⟩⟩
 case round =>
  clear HL6 HLP HSC hj0 HTJ
  obtain ⟨j,κ1,p,cv,fv,Ah,ch,chc,hjT,rfl,HS⟩:=hrel
  obtain ⟨hU,hP,hsc⟩:=HS.out
  obtain ⟨j',hj',hlb,hcase⟩:=dR hsc
  obtain rfl:j=j':=by omega
  obtain ⟨c4,c6,c7,c8⟩:=HCE.out κ1 wr p.acty hU.m
  have qt:=c7 j hjT
  generalize htt:s.e.tr.getD j 0=t at *
  obtain ⟨l0,l1⟩:=wN hlb
  rw [HBL.out] at l1
  have hi:=wZ (B:=s.e.val.length) (by rw [HBL.out];omega) hlb
  have HV:Hid (∀W,Calls Try.prog 64 #[.int .i64 t] W fun e w'=>e = .returned (.int .i64 (vr t:Nat))∧W=w'):=Lib.hid fun W=>gI t l0 hi.1 hi.2 W
  have qs:=hU.sb.cell 0
  have qe:=hU.eb.cell 0
  have qn:=hU.nb.cell 0
  simp only [zA,zB] at qs qe qn
  rw [HBL.out] at qe
  have HTT:=Lib.hid htt
  have HHI:=Lib.hid (And.intro l0 hi)
  generalize vr t=v at *
  have qq:=dJ hU.qb.b (k:=v) (by rw [hP.sl];exact l1)
  have yv:(v:Int)<(B:Int):=by omega
  have yj:(j:Int)<(T:Int):=by omega
  have HL1:=Lib.hid l1
  have HUU:=Lib.hid hU
  have HPP:=Lib.hid hP
  have HJT:=Lib.hid hjT
  cases hsn:p.seen.getD v false with
  | false =>
   rw [hsn] at qq
   have hsc2:dK s.e j p ch=some (K,P,CH):=by
    rcases hcase with h|h
    ·exact h.2
    ·rw [hsn] at h;cases h.1
   obtain ⟨j2,hj2, -⟩:=dR hsc2
   have HN:Hid (LnS κ w g U ⟨bs,bo,be,bq,bc,bf,bn,conf⟩ κ1 wr s V U p cv fv (.slice Ah ch.length chc) ch∧LpB B p∧dK s.e (j2+1) p ch=some (K,P,CH)):=Lib.hid ⟨hU,hP,by rw [←hj2];exact hsc2⟩
   have HJ2:=Lib.hid hj2
   clear hU hP hsc hcase hsc2 hj2 hj' hlb l0 l1 hi c4 c7 c8 htt hsn HS HUU HPP qn hjT
   go_wp2_with fail
   refine (HV.out _).mono ?_
   rintro en W2 ⟨rfl,rfl⟩
   have yj2:1≤j:=by have:=HJ2.out;omega
   go_wp2_with fail
   have hj2:=HJ2.out
   have hjT:=HJT.out
   go_roundw
   case rel=>exact ⟨j2,κ1,p,cv,fv,Ah,ch,chc,by omega,by go_num,HN⟩
   case measure=>simp [intOf];omega
  | true =>
   rw [hsn] at qq
   by_cases ho:p.opn=1
   ·obtain ⟨rfl,rfl,rfl⟩:j=K∧p=P∧ch=CH:=by
     rcases hcase with h|h
     ·rw [hsn] at h;cases h.1
     ·rcases h.2 with h|h
      ·have:=h.2;injection this with e1 e2;injection e2 with e2 e3;exact ⟨e1.symm,e2.symm,e3.symm⟩
      ·exact absurd ho h.1
    rw [ho] at qn
    obtain ⟨Af,cf,hfv,hf1,hf2⟩:=hU.fr.shape
    subst hfv
    obtain ⟨Ac,cc,hcv,hc1,hc2⟩:=hU.cr.shape
    subst hcv
    have qf:=hU.fb.cell 0
    simp only [zA,zB] at qf
    unfold maxLen at hf2 hc2
    have HL0:Hid (LnS κ w g U ⟨bs,bo,be,bq,bc,bf,bn,conf⟩ κ1 wr { s with acty:=p.acty } V U p (.slice Ac p.clause.length cc) (.slice Af p.fixed.length cf) (.slice Ah ch.length chc) ch∧(p.fixed.drop 0).foldlM (unsStep n) ({ s with acty:=p.acty },ch)=some (s1,CH2)):=Lib.hid ⟨hU.put,HUN.out⟩
    clear hU hP hsc hcase hj' hlb l0 l1 hi c4 c7 c8 htt hsn HS HUU ho hjT HUN
    go_wp2_with fail
    refine (HV.out _).mono ?_
    rintro en W2 ⟨rfl,rfl⟩
    go_wp2_with fail
    clear qt qs qe qn qq qf c6
    have HHI2:=HHI
    clear HHI HV
    go_loopw [88] (fun i wr2=>∃(k:Nat) (κ2:Kap) (t1:Sol) (V1:EV) (U1:SV) (ch1:List (Nat × Int)) (Av:Option Addr) (cv1:Nat),k≤p.fixed.length∧i = .int .i64 (k:Int)∧Hid (LnS κ w g U ⟨bs,bo,be,bq,bc,bf,bn,conf⟩ κ2 wr2 t1 V1 U1 p (.slice Ac p.clause.length cc) (.slice Af p.fixed.length cf) (.slice Av ch1.length cv1) ch1∧(p.fixed.drop k).foldlM (unsStep n) (t1,ch1)=some (s1,CH2)∧Kept { s with acty:=p.acty } t1)) (fun i _=>p.fixed.length-(intOf i).toNat)
    case atStart=>exact ⟨0,κ1,{ s with acty:=p.acty },V,U,ch,Ah,chc,zQ _,rfl,Lib.hid ⟨HL0.out.1,HL0.out.2, .refl _⟩⟩
    case round =>
     clear HL0
     obtain ⟨k,κ2,t1,V2,U2,ch1,Av,cv1,hk,rfl,HS2⟩:=hrel
     by_cases hlt:k<p.fixed.length
     ·obtain ⟨lit,hlit⟩:∃lit,p.fixed[k]? = some lit:=⟨_,List.getElem?_eq_getElem (by omega)⟩
      have hdr:p.fixed.drop k=lit::p.fixed.drop (k+1):=by
       obtain ⟨h1,h2⟩:=zG.1 hlit
       rw [zT h1,h2]
      obtain ⟨hU,hfo,hkp⟩:=HS2.out
      rw [hdr,qW] at hfo
      obtain ⟨ga,ca,e1, -, -, -, -,hcc, -⟩:=hU.fr.open_ (by omega)
      injection e1 with e1 _ e2
      subst e1
      subst e2
      have ql:=hcc k _ (wU hlit)
      have yk:(k:Int)<(p.fixed.length:Int):=by omega
      unfold unsStep at hfo
      simp only at hfo
      have hac:t1.acty=p.acty:=by obtain ⟨_,_,_,rfl⟩:=hkp;rfl
      have hm1:=hU.sol hac
      by_cases hlb0:litB t1.unt.length lit=true∧ch1.length<LIM
      ·rw [if_pos hlb0] at hfo
       obtain ⟨hlb,hchl⟩:=hlb0
       obtain ⟨l0,l1⟩:=wN hlb
       have hB2:t1.unt.length≤1024:=by rw [hm1.untl];exact hm1.eng.B
       have hi:=wZ (by omega) hlb
       have HV:Hid (∀W,Calls Try.prog 64 #[.int .i64 lit] W fun e w'=>e = .returned (.int .i64 (vr lit:Nat))∧W=w'):=Lib.hid fun W=>gI lit l0 hi.1 hi.2 W
       have HKL:=Lib.hid (And.intro hk hlt)
       have HMX:Hid (ch1.length+1≤maxLen∧(ch1.length+1) * 16≤140737488355328):=by refine Lib.hid ?_;unfold LIM at hchl;unfold maxLen;omega
       cases hun:dA n t1 (vr lit) with
       | none=>rw [hun] at hfo;cases hfo
       | some q =>
       obtain ⟨t2,c2⟩:=q
       rw [hun] at hfo
       have hfo:(p.fixed.drop (k+1)).foldlM (unsStep n) (t2,ch1++[(c2, -lit)])=some (s1,CH2):=hfo
       have HFO2:=Lib.hid hfo
       have HKP:=Lib.hid (hkp.trans (iR _ _ _ _ _ hun))
       obtain ⟨Wd,hWd⟩:∃Wd,Wd=wr.drew:=⟨_,rfl⟩
       have HUU:Hid (LnS κ w g U ⟨bs,bo,be,bq,bc,bf,bn,conf⟩ κ2 Wd t1 V2 U2 p (.slice Ac p.clause.length cc) (.slice (some ⟨ga,0,none⟩) p.fixed.length cf) (.slice Av ch1.length cv1) ch1):=by refine Lib.hid ?_;rw [hWd];exact hU.drewN 1
       have HUC:=Lib.hid (oU n κ2 Wd t1 V2 U2 (vr lit) t2 c2 (HUU.out.sol hac) hun)
       have HOC:Hid (∀u∈([.int .i64 (c2:Int), .int .i64 (-lit)]:List Value),u.oneCell'=true):=Lib.hid (by intro u hu;simp at hu;rcases hu with rfl|rfl<;>rfl)
       have HVL:Hid (t2.acty=p.acty∧t2.e.val.length=t1.e.val.length):=by
        obtain ⟨_,_,_,h1⟩:=iR _ _ _ _ _ hun
        refine Lib.hid ⟨?_,?_⟩
        ·rw [h1];exact hac
        ·rw [h1]
       have HUR:Hid (∀vu wu,wP κ2 Wd g U2 bJ (.int .i64 (c2:Int)) t2 (.returned vu) wu→vu = .int .i64 (c2:Int)∧(wu.cell? ⟨bo,7,none⟩=some (.slice Av ch1.length cv1)∧(wu.alloc (.cells #[.int .i64 (c2:Int), .int .i64 (-lit)] 115)).cell? ⟨bo,7,none⟩=some (.slice Av ch1.length cv1)∧wu.cell? ⟨bs,0,none⟩=some (.pointer (some ⟨g,0,none⟩))∧(wu.alloc (.cells #[.int .i64 (c2:Int), .int .i64 (-lit)] 115)).cell? ⟨bs,0,none⟩=some (.pointer (some ⟨g,0,none⟩))∧(wu.alloc (.cells #[.int .i64 (c2:Int), .int .i64 (-lit)] 115)).ownsRow 0 115 2 (.slice Av ch1.length cv1) ch1.length (aC ch1) ∧
         ∀v' w2,w2.ownsRow 0 115 2 v' (ch1.length+1) (aC ch1++[.int .i64 (c2:Int), .int .i64 (-lit)])→(wu.alloc (.cells #[.int .i64 (c2:Int), .int .i64 (-lit)] 115)).grownBy w2 (Value.slice Av ch1.length cv1).ownBlock→(v'.ownBlock=(Value.slice Av ch1.length cv1).ownBlock∨v'.ownBlock=some (wu.alloc (.cells #[.int .i64 (c2:Int), .int .i64 (-lit)] 115)).heap.size) →
          w2.frozen? ⟨bo,7,none⟩=false∧w2.cell? ⟨bo,7,none⟩=some (.slice Av ch1.length cv1)∧w2.cell? ⟨bs,0,none⟩=some (.pointer (some ⟨g,0,none⟩))∧(w2.setCell ⟨bo,7,none⟩ v').cell? ⟨bs,0,none⟩=some (.pointer (some ⟨g,0,none⟩))∧∃κ4,∃V4 U4,LnS κ w g U ⟨bs,bo,be,bq,bc,bf,bn,conf⟩ κ4 (w2.setCell ⟨bo,7,none⟩ v') t2 V4 U4 p (.slice Ac p.clause.length cc) (.slice (some ⟨ga,0,none⟩) p.fixed.length cf) v' (ch1++[(c2, -lit)]))):=by
        refine Lib.hid fun vu wu hu => ?_
        obtain ⟨hv9,κ3,V3,U3,hm3,hf3,hsm3⟩:=hu
        injection hv9 with hv9
        have hU3:=HUU.out.call hm3 hf3 hsm3 HVL.out.1 HVL.out.2
        refine ⟨hv9,hU3.ob.cell 7,(hU3.ob.b.alloc _).cell 7,hU3.sb.cell 0,(hU3.sb.b.alloc _).cell 0,(hU3.alloc _).hr.o,fun v' w2 k1 k2 k3 => ?_⟩
        obtain ⟨κ4,e1,e2,e3,e4⟩:=hU3.link (q:=(c2, -lit)) (o:=(.cells #[.int .i64 (c2:Int), .int .i64 (-lit)] 115)) k1 k2 k3
        exact ⟨e2,e3,(hU3.sb.fr e4 (by simp)).cell 0,e1.sb.cell 0,κ4,V3,U3,e1⟩
       have q7:=HUU.out.ob.cell 7
       unfold orgA at q7
       simp only [zA,zB,zC] at q7
       have s1':=HUU.out.sb.cell 0
       simp only [zA,zB] at s1'
       have s0:=s1'
       rw [hWd] at s0
       have yn:IntKind.i64.wrap (-lit) = -lit:=by rw [qS];omega
       clear hfo hU hdr hlit hcc hlb hchl l0 l1 hi hB2 HS2 hk hlt hun hkp hm1 hac
       go_upto_region 18 with fail
       clear ql
       refine yF (S:=fun w'=>w'.cell? ⟨bs,0,none⟩=some (.pointer (some ⟨g,0,none⟩))) (by kernel_rfl) (by (try dsimp only);first|with_reducible exact s0|with_reducible exact s1'|with_reducible exact s3|with_reducible exact s4|with_reducible exact s7|with_reducible exact s8) (fun hHeld => ?_)
       rw [←hWd]
       rw [←hWd] at hHeld
       clear hWd
       refine zI (i:=0) (v := ?v21) (by simp only [zA,zB];rfl) (by kernel_rfl) (by kernel_rfl) (by kernel_rfl) (by exact fun _ _ _ h=>h) (Or.inl ⟨by rfl,?y21⟩) hHeld ?r21
       case y21=>(intro w hSw;(try dsimp only at hSw);go_simp<;>with_reducible rfl)
       (try simp only [Act.put,zD,zE,zF])
       refine zI (i:=2) (v := ?v22) (by simp only [zA,zC,zB];rfl) (by kernel_rfl) (by kernel_rfl) (by kernel_rfl) (by exact fun _ _ _ h=>h) (Or.inl ⟨by rfl,?y22⟩) hHeld ?r22
       case y22=>(intro w hSw;(try dsimp only at hSw);go_simp<;>with_reducible rfl)
       (try simp only [Act.put,zD,zE,zF])
       refine zI (i:=3) (v := ?v23) (by simp only [zA,zC,zB];rfl) (by kernel_rfl) (by kernel_rfl) (by kernel_rfl) (by exact fun _ _ _ h=>h) (Or.inl ⟨by rfl,?y23⟩) hHeld ?r23
       case y23=>(intro w hSw;(try dsimp only at hSw);go_simp<;>with_reducible rfl)
       (try simp only [Act.put,zD,zE,zF])
       refine zI (i:=6) (v := ?v24) (by simp only [zA,zC,zB];rfl) (by kernel_rfl) (by kernel_rfl) (by kernel_rfl) (by exact fun _ _ _ h=>h) (Or.inl ⟨by rfl,?y24⟩) hHeld ?r24
       case y24=>(intro w hSw;(try dsimp only at hSw);go_simp<;>with_reducible rfl)
       (try simp only [Act.put,zD,zE,zF])
       refine zI (i:=7) (v := ?v25) (by simp only [zA,zC,zB];rfl) (by kernel_rfl) (by kernel_rfl) (by kernel_rfl) (by exact fun _ _ _ h=>h) (Or.inl ⟨by rfl,?y25⟩) hHeld ?r25
       case y25=>(intro w hSw;(try dsimp only at hSw);go_simp<;>with_reducible rfl)
       (try simp only [Act.put,zD,zE,zF])
       refine zS (rs:=[1,4]) (by kernel_rfl) (by simp) ?_
       refine zM (by simp only [zA,zC,zB];rfl) (fun K hK => ?_) (zM (by simp only [zA,zC,zB];rfl) (fun K hK => ?_) zP)
       ·clear hHeld
        go_simp
        refine hK.out _ _ (by (try dsimp only);first|with_reducible exact s0|with_reducible exact s1'|with_reducible exact s3|with_reducible exact s4|with_reducible exact s7|with_reducible exact s8) (fun hHeld => ?_)
        clear hK K
        (try simp only [Act.put,zD,zE,zF])
        refine zS (rs:=[4]) (by kernel_rfl) (by simp) ?_
        refine zM (by simp only [zA,zC,zB];rfl) (fun K hK => ?_) zP
        clear hHeld
        (refine wC rfl 64 _ _ rfl _ Try.func64 (by kernel_rfl) (by kernel_rfl) #[.int .i64 lit] (by first|rfl|(simp [Act.eval];done)|(simp [Act.eval,Act.put];done)) (HV.out _) (fun e w' h=>⟨_,h.1⟩) ?_;rintro v9 w9 ⟨hv9,rfl⟩;injection hv9 with hv9;subst hv9)
        refine hK.out _ _ (by (try dsimp only);first|with_reducible exact s0|with_reducible exact s1'|with_reducible exact s3|with_reducible exact s4|with_reducible exact s7|with_reducible exact s8) (fun hHeld => ?_)
        clear hK K
        (try simp only [Act.put,zD,zE,zF])
        refine zS (rs:=[5]) (by kernel_rfl) (by simp) ?_
        refine zM (by simp only [zA,zC,zB];rfl) (fun K hK => ?_) zP
        clear hHeld
        (refine wC rfl 63 _ _ rfl _ Try.func63 (by kernel_rfl) (by kernel_rfl) #[.pointer (some ⟨g,0,none⟩), .int .i64 (vr lit:Nat)] (by first|rfl|(simp [Act.eval];done)|(simp [Act.eval,Act.put];done)) HUC.out (fun e w' h=>⟨_,h.1⟩) ?_;intro vu wu hu;obtain ⟨hv9,hK9⟩:=HUR.out vu wu hu;subst hv9;have HK:=Lib.hid hK9;clear hK9;have ca0:=HK.out.1;have ca1:=HK.out.2.1;have s3:=HK.out.2.2.1;have s4:=HK.out.2.2.2.1)
        refine hK.out _ _ (by (try dsimp only);first|with_reducible exact s0|with_reducible exact s1'|with_reducible exact s3|with_reducible exact s4|with_reducible exact s7|with_reducible exact s8) (fun hHeld => ?_)
        clear hK K
        (try simp only [Act.put,zD,zE,zF])
        refine zI (i:=8) (v := ?v26) (by simp only [zA,zC,zB];rfl) (by kernel_rfl) (by kernel_rfl) (by kernel_rfl) (by exact fun _ _ _ h=>h) (Or.inl ⟨by rfl,?y26⟩) hHeld ?r26
        case y26=>(intro w hSw;(try dsimp only at hSw);go_simp<;>with_reducible rfl)
        (try simp only [Act.put,zD,zE,zF])
        refine zS (rs:=[9]) (by kernel_rfl) (by simp) ?_
        refine zM (by simp only [zA,zC,zB];rfl) (fun K hK => ?_) zP
        clear hHeld
        go_simp
        refine hK.out _ _ (by (try dsimp only);first|with_reducible exact s0|with_reducible exact s1'|with_reducible exact s3|with_reducible exact s4|with_reducible exact s7|with_reducible exact s8) (fun hHeld => ?_)
        clear hK K
        (try simp only [Act.put,zD,zE,zF])
        refine zS (rs:=[10]) (by kernel_rfl) (by simp) ?_
        refine zM (by simp only [zA,zC,zB];rfl) (fun K hK => ?_) zP
        clear hHeld
        (refine jZ rfl (.tmp 93) (.tmp 101) 92 rfl 0 115 iL (.agg #[.int .i64 0, .int .i64 0]) 2 16 Try.underlying92 hiL hzL0 hzL1 hzL2 rfl (by decide) (.slice Av ch1.length cv1) ch1.length (aC ch1) (by first|rfl|(simp [Act.eval];done)|(simp [Act.eval,Act.put];done)) HK.out.2.2.2.2.1 ⟨wu.heap.size,0,none⟩ 1 1 [.int .i64 (c2:Int), .int .i64 (-lit)] (by first|rfl|(simp [Act.eval];done)|(simp [Act.eval,Act.put];done)) rfl (wY wu 115 [.int .i64 (c2:Int), .int .i64 (-lit)] rfl) HOC.out HMX.out.1 HMX.out.2 (zQ _) ?_;intro v' w2 hown hg hat;obtain ⟨A',c',hv', -, -, -⟩:=wB hown;subst hv';obtain ⟨z7,y7,s7,s8,κ4,V4,U4,hU4⟩:=HK.out.2.2.2.2.2 _ w2 hown hg hat;have HU4:=Lib.hid hU4;clear hown hg hat hU4)
        refine hK.out _ _ (by (try dsimp only);first|with_reducible exact s0|with_reducible exact s1'|with_reducible exact s3|with_reducible exact s4|with_reducible exact s7|with_reducible exact s8) (fun hHeld => ?_)
        clear hK K
        (try simp only [Act.put,zD,zE,zF])
        refine zI (i:=11) (v := ?v27) (by simp only [zA,zC,zB];rfl) (by kernel_rfl) (by kernel_rfl) (by kernel_rfl) (by exact fun _ _ _ h=>h) (Or.inl ⟨by rfl,?y27⟩) hHeld ?r27
        case y27=>(intro w hSw;(try dsimp only at hSw);go_simp<;>with_reducible rfl)
        (try simp only [Act.put,zD,zE,zF])
        refine zS (rs:=[12]) (by kernel_rfl) (by simp) ?_
        refine zM (by simp only [zA,zC,zB];rfl) (fun K hK => ?_) zP
        clear hHeld
        go_simp
        refine hK.out _ _ (by (try dsimp only);first|with_reducible exact s0|with_reducible exact s1'|with_reducible exact s3|with_reducible exact s4|with_reducible exact s7|with_reducible exact s8) (fun hHeld => ?_)
        clear hK K
        (try simp only [Act.put,zD,zE,zF])
        clear hHeld
        refine yR (by kernel_rfl) ?_ _
        clear z7 y7 q7 ca0 ca1 s0 s1' s3 s4 s7 s8
        have HN:Hid (LnS κ w g U ⟨bs,bo,be,bq,bc,bf,bn,conf⟩ κ4 (w2.setCell ⟨bo,7,none⟩ (.slice A' (ch1.length+1) c')) t2 V4 U4 p (.slice Ac p.clause.length cc) (.slice (some ⟨ga,0,none⟩) p.fixed.length cf) (.slice A' (ch1++[(c2, -lit)]).length c') (ch1++[(c2, -lit)])∧(p.fixed.drop (k+1)).foldlM (unsStep n) (t2,ch1++[(c2, -lit)])=some (s1,CH2)∧Kept { s with acty:=p.acty } t2):=Lib.hid ⟨by rw [zJ];exact HU4.out,HFO2.out,HKP.out⟩
        obtain ⟨hk,hlt⟩:=HKL.out
        clear HU4 HK HUR HUC HUU yn
        generalize w2.setCell ⟨bo,7,none⟩ (.slice A' (ch1.length+1) c')=W9 at *
        go_wp2_with fail
        go_roundw
        case rel=>exact ⟨k+1,κ4,t2,V4,U4,ch1++[(c2, -lit)],A',c',by omega,by go_num,HN⟩
        case measure=>simp [intOf];omega
       ·clear hHeld
        (refine wC rfl 64 _ _ rfl _ Try.func64 (by kernel_rfl) (by kernel_rfl) #[.int .i64 lit] (by first|rfl|(simp [Act.eval];done)|(simp [Act.eval,Act.put];done)) (HV.out _) (fun e w' h=>⟨_,h.1⟩) ?_;rintro v9 w9 ⟨hv9,rfl⟩;injection hv9 with hv9;subst hv9)
        refine hK.out _ _ (by (try dsimp only);first|with_reducible exact s0|with_reducible exact s1'|with_reducible exact s3|with_reducible exact s4|with_reducible exact s7|with_reducible exact s8) (fun hHeld => ?_)
        clear hK K
        (try simp only [Act.put,zD,zE,zF])
        refine zS (rs:=[1,5]) (by kernel_rfl) (by simp) ?_
        refine zM (by simp only [zA,zC,zB];rfl) (fun K hK => ?_) (zM (by simp only [zA,zC,zB];rfl) (fun K hK => ?_) zP)
        ·clear hHeld
         go_simp
         refine hK.out _ _ (by (try dsimp only);first|with_reducible exact s0|with_reducible exact s1'|with_reducible exact s3|with_reducible exact s4|with_reducible exact s7|with_reducible exact s8) (fun hHeld => ?_)
         clear hK K
         (try simp only [Act.put,zD,zE,zF])
         refine zS (rs:=[5]) (by kernel_rfl) (by simp) ?_
         refine zM (by simp only [zA,zC,zB];rfl) (fun K hK => ?_) zP
         clear hHeld
         (refine wC rfl 63 _ _ rfl _ Try.func63 (by kernel_rfl) (by kernel_rfl) #[.pointer (some ⟨g,0,none⟩), .int .i64 (vr lit:Nat)] (by first|rfl|(simp [Act.eval];done)|(simp [Act.eval,Act.put];done)) HUC.out (fun e w' h=>⟨_,h.1⟩) ?_;intro vu wu hu;obtain ⟨hv9,hK9⟩:=HUR.out vu wu hu;subst hv9;have HK:=Lib.hid hK9;clear hK9;have ca0:=HK.out.1;have ca1:=HK.out.2.1;have s3:=HK.out.2.2.1;have s4:=HK.out.2.2.2.1)
         refine hK.out _ _ (by (try dsimp only);first|with_reducible exact s0|with_reducible exact s1'|with_reducible exact s3|with_reducible exact s4|with_reducible exact s7|with_reducible exact s8) (fun hHeld => ?_)
         clear hK K
         (try simp only [Act.put,zD,zE,zF])
         refine zI (i:=8) (v := ?v28) (by simp only [zA,zC,zB];rfl) (by kernel_rfl) (by kernel_rfl) (by kernel_rfl) (by exact fun _ _ _ h=>h) (Or.inl ⟨by rfl,?y28⟩) hHeld ?r28
         case y28=>(intro w hSw;(try dsimp only at hSw);go_simp<;>with_reducible rfl)
         (try simp only [Act.put,zD,zE,zF])
         refine zS (rs:=[9]) (by kernel_rfl) (by simp) ?_
         refine zM (by simp only [zA,zC,zB];rfl) (fun K hK => ?_) zP
         clear hHeld
         go_simp
         refine hK.out _ _ (by (try dsimp only);first|with_reducible exact s0|with_reducible exact s1'|with_reducible exact s3|with_reducible exact s4|with_reducible exact s7|with_reducible exact s8) (fun hHeld => ?_)
         clear hK K
         (try simp only [Act.put,zD,zE,zF])
         refine zS (rs:=[10]) (by kernel_rfl) (by simp) ?_
         refine zM (by simp only [zA,zC,zB];rfl) (fun K hK => ?_) zP
         clear hHeld
         (refine jZ rfl (.tmp 93) (.tmp 101) 92 rfl 0 115 iL (.agg #[.int .i64 0, .int .i64 0]) 2 16 Try.underlying92 hiL hzL0 hzL1 hzL2 rfl (by decide) (.slice Av ch1.length cv1) ch1.length (aC ch1) (by first|rfl|(simp [Act.eval];done)|(simp [Act.eval,Act.put];done)) HK.out.2.2.2.2.1 ⟨wu.heap.size,0,none⟩ 1 1 [.int .i64 (c2:Int), .int .i64 (-lit)] (by first|rfl|(simp [Act.eval];done)|(simp [Act.eval,Act.put];done)) rfl (wY wu 115 [.int .i64 (c2:Int), .int .i64 (-lit)] rfl) HOC.out HMX.out.1 HMX.out.2 (zQ _) ?_;intro v' w2 hown hg hat;obtain ⟨A',c',hv', -, -, -⟩:=wB hown;subst hv';obtain ⟨z7,y7,s7,s8,κ4,V4,U4,hU4⟩:=HK.out.2.2.2.2.2 _ w2 hown hg hat;have HU4:=Lib.hid hU4;clear hown hg hat hU4)
         refine hK.out _ _ (by (try dsimp only);first|with_reducible exact s0|with_reducible exact s1'|with_reducible exact s3|with_reducible exact s4|with_reducible exact s7|with_reducible exact s8) (fun hHeld => ?_)
         clear hK K
         (try simp only [Act.put,zD,zE,zF])
         refine zI (i:=11) (v := ?v29) (by simp only [zA,zC,zB];rfl) (by kernel_rfl) (by kernel_rfl) (by kernel_rfl) (by exact fun _ _ _ h=>h) (Or.inl ⟨by rfl,?y29⟩) hHeld ?r29
         case y29=>(intro w hSw;(try dsimp only at hSw);go_simp<;>with_reducible rfl)
         (try simp only [Act.put,zD,zE,zF])
         refine zS (rs:=[12]) (by kernel_rfl) (by simp) ?_
         refine zM (by simp only [zA,zC,zB];rfl) (fun K hK => ?_) zP
         clear hHeld
         go_simp
         refine hK.out _ _ (by (try dsimp only);first|with_reducible exact s0|with_reducible exact s1'|with_reducible exact s3|with_reducible exact s4|with_reducible exact s7|with_reducible exact s8) (fun hHeld => ?_)
         clear hK K
         (try simp only [Act.put,zD,zE,zF])
         clear hHeld
         refine yR (by kernel_rfl) ?_ _
         clear z7 y7 q7 ca0 ca1 s0 s1' s3 s4 s7 s8
         have HN:Hid (LnS κ w g U ⟨bs,bo,be,bq,bc,bf,bn,conf⟩ κ4 (w2.setCell ⟨bo,7,none⟩ (.slice A' (ch1.length+1) c')) t2 V4 U4 p (.slice Ac p.clause.length cc) (.slice (some ⟨ga,0,none⟩) p.fixed.length cf) (.slice A' (ch1++[(c2, -lit)]).length c') (ch1++[(c2, -lit)])∧(p.fixed.drop (k+1)).foldlM (unsStep n) (t2,ch1++[(c2, -lit)])=some (s1,CH2)∧Kept { s with acty:=p.acty } t2):=Lib.hid ⟨by rw [zJ];exact HU4.out,HFO2.out,HKP.out⟩
         obtain ⟨hk,hlt⟩:=HKL.out
         clear HU4 HK HUR HUC HUU yn
         generalize w2.setCell ⟨bo,7,none⟩ (.slice A' (ch1.length+1) c')=W9 at *
         go_wp2_with fail
         go_roundw
         case rel=>exact ⟨k+1,κ4,t2,V4,U4,ch1++[(c2, -lit)],A',c',by omega,by go_num,HN⟩
         case measure=>simp [intOf];omega
        ·clear hHeld
         (refine wC rfl 63 _ _ rfl _ Try.func63 (by kernel_rfl) (by kernel_rfl) #[.pointer (some ⟨g,0,none⟩), .int .i64 (vr lit:Nat)] (by first|rfl|(simp [Act.eval];done)|(simp [Act.eval,Act.put];done)) HUC.out (fun e w' h=>⟨_,h.1⟩) ?_;intro vu wu hu;obtain ⟨hv9,hK9⟩:=HUR.out vu wu hu;subst hv9;have HK:=Lib.hid hK9;clear hK9;have ca0:=HK.out.1;have ca1:=HK.out.2.1;have s3:=HK.out.2.2.1;have s4:=HK.out.2.2.2.1)
         refine hK.out _ _ (by (try dsimp only);first|with_reducible exact s0|with_reducible exact s1'|with_reducible exact s3|with_reducible exact s4|with_reducible exact s7|with_reducible exact s8) (fun hHeld => ?_)
         clear hK K
         (try simp only [Act.put,zD,zE,zF])
         refine zI (i:=8) (v := ?v30) (by simp only [zA,zC,zB];rfl) (by kernel_rfl) (by kernel_rfl) (by kernel_rfl) (by exact fun _ _ _ h=>h) (Or.inl ⟨by rfl,?y30⟩) hHeld ?r30
         case y30=>(intro w hSw;(try dsimp only at hSw);go_simp<;>with_reducible rfl)
         (try simp only [Act.put,zD,zE,zF])
         refine zS (rs:=[1,9]) (by kernel_rfl) (by simp) ?_
         refine zM (by simp only [zA,zC,zB];rfl) (fun K hK => ?_) (zM (by simp only [zA,zC,zB];rfl) (fun K hK => ?_) zP)
         ·clear hHeld
          go_simp
          refine hK.out _ _ (by (try dsimp only);first|with_reducible exact s0|with_reducible exact s1'|with_reducible exact s3|with_reducible exact s4|with_reducible exact s7|with_reducible exact s8) (fun hHeld => ?_)
          clear hK K
          (try simp only [Act.put,zD,zE,zF])
          refine zS (rs:=[9]) (by kernel_rfl) (by simp) ?_
          refine zM (by simp only [zA,zC,zB];rfl) (fun K hK => ?_) zP
          clear hHeld
          go_simp
          refine hK.out _ _ (by (try dsimp only);first|with_reducible exact s0|with_reducible exact s1'|with_reducible exact s3|with_reducible exact s4|with_reducible exact s7|with_reducible exact s8) (fun hHeld => ?_)
          clear hK K
          (try simp only [Act.put,zD,zE,zF])
          refine zS (rs:=[10]) (by kernel_rfl) (by simp) ?_
          refine zM (by simp only [zA,zC,zB];rfl) (fun K hK => ?_) zP
          clear hHeld
          (refine jZ rfl (.tmp 93) (.tmp 101) 92 rfl 0 115 iL (.agg #[.int .i64 0, .int .i64 0]) 2 16 Try.underlying92 hiL hzL0 hzL1 hzL2 rfl (by decide) (.slice Av ch1.length cv1) ch1.length (aC ch1) (by first|rfl|(simp [Act.eval];done)|(simp [Act.eval,Act.put];done)) HK.out.2.2.2.2.1 ⟨wu.heap.size,0,none⟩ 1 1 [.int .i64 (c2:Int), .int .i64 (-lit)] (by first|rfl|(simp [Act.eval];done)|(simp [Act.eval,Act.put];done)) rfl (wY wu 115 [.int .i64 (c2:Int), .int .i64 (-lit)] rfl) HOC.out HMX.out.1 HMX.out.2 (zQ _) ?_;intro v' w2 hown hg hat;obtain ⟨A',c',hv', -, -, -⟩:=wB hown;subst hv';obtain ⟨z7,y7,s7,s8,κ4,V4,U4,hU4⟩:=HK.out.2.2.2.2.2 _ w2 hown hg hat;have HU4:=Lib.hid hU4;clear hown hg hat hU4)
          refine hK.out _ _ (by (try dsimp only);first|with_reducible exact s0|with_reducible exact s1'|with_reducible exact s3|with_reducible exact s4|with_reducible exact s7|with_reducible exact s8) (fun hHeld => ?_)
          clear hK K
          (try simp only [Act.put,zD,zE,zF])
          refine zI (i:=11) (v := ?v31) (by simp only [zA,zC,zB];rfl) (by kernel_rfl) (by kernel_rfl) (by kernel_rfl) (by exact fun _ _ _ h=>h) (Or.inl ⟨by rfl,?y31⟩) hHeld ?r31
          case y31=>(intro w hSw;(try dsimp only at hSw);go_simp<;>with_reducible rfl)
          (try simp only [Act.put,zD,zE,zF])
          refine zS (rs:=[12]) (by kernel_rfl) (by simp) ?_
          refine zM (by simp only [zA,zC,zB];rfl) (fun K hK => ?_) zP
          clear hHeld
          go_simp
          refine hK.out _ _ (by (try dsimp only);first|with_reducible exact s0|with_reducible exact s1'|with_reducible exact s3|with_reducible exact s4|with_reducible exact s7|with_reducible exact s8) (fun hHeld => ?_)
          clear hK K
          (try simp only [Act.put,zD,zE,zF])
          clear hHeld
          refine yR (by kernel_rfl) ?_ _
          clear z7 y7 q7 ca0 ca1 s0 s1' s3 s4 s7 s8
          have HN:Hid (LnS κ w g U ⟨bs,bo,be,bq,bc,bf,bn,conf⟩ κ4 (w2.setCell ⟨bo,7,none⟩ (.slice A' (ch1.length+1) c')) t2 V4 U4 p (.slice Ac p.clause.length cc) (.slice (some ⟨ga,0,none⟩) p.fixed.length cf) (.slice A' (ch1++[(c2, -lit)]).length c') (ch1++[(c2, -lit)])∧(p.fixed.drop (k+1)).foldlM (unsStep n) (t2,ch1++[(c2, -lit)])=some (s1,CH2)∧Kept { s with acty:=p.acty } t2):=Lib.hid ⟨by rw [zJ];exact HU4.out,HFO2.out,HKP.out⟩
          obtain ⟨hk,hlt⟩:=HKL.out
          clear HU4 HK HUR HUC HUU yn
          generalize w2.setCell ⟨bo,7,none⟩ (.slice A' (ch1.length+1) c')=W9 at *
          go_wp2_with fail
          go_roundw
          case rel=>exact ⟨k+1,κ4,t2,V4,U4,ch1++[(c2, -lit)],A',c',by omega,by go_num,HN⟩
          case measure=>simp [intOf];omega
         ·clear hHeld
          go_simp
          refine hK.out _ _ (by (try dsimp only);first|with_reducible exact s0|with_reducible exact s1'|with_reducible exact s3|with_reducible exact s4|with_reducible exact s7|with_reducible exact s8) (fun hHeld => ?_)
          clear hK K
          (try simp only [Act.put,zD,zE,zF])
          refine zS (rs:=[1]) (by kernel_rfl) (by simp) ?_
          refine zM (by simp only [zA,zC,zB];rfl) (fun K hK => ?_) zP
          clear hHeld
          go_simp
          refine hK.out _ _ (by (try dsimp only);first|with_reducible exact s0|with_reducible exact s1'|with_reducible exact s3|with_reducible exact s4|with_reducible exact s7|with_reducible exact s8) (fun hHeld => ?_)
          clear hK K
          (try simp only [Act.put,zD,zE,zF])
          refine zS (rs:=[10]) (by kernel_rfl) (by simp) ?_
          refine zM (by simp only [zA,zC,zB];rfl) (fun K hK => ?_) zP
          clear hHeld
          (refine jZ rfl (.tmp 93) (.tmp 101) 92 rfl 0 115 iL (.agg #[.int .i64 0, .int .i64 0]) 2 16 Try.underlying92 hiL hzL0 hzL1 hzL2 rfl (by decide) (.slice Av ch1.length cv1) ch1.length (aC ch1) (by first|rfl|(simp [Act.eval];done)|(simp [Act.eval,Act.put];done)) HK.out.2.2.2.2.1 ⟨wu.heap.size,0,none⟩ 1 1 [.int .i64 (c2:Int), .int .i64 (-lit)] (by first|rfl|(simp [Act.eval];done)|(simp [Act.eval,Act.put];done)) rfl (wY wu 115 [.int .i64 (c2:Int), .int .i64 (-lit)] rfl) HOC.out HMX.out.1 HMX.out.2 (zQ _) ?_;intro v' w2 hown hg hat;obtain ⟨A',c',hv', -, -, -⟩:=wB hown;subst hv';obtain ⟨z7,y7,s7,s8,κ4,V4,U4,hU4⟩:=HK.out.2.2.2.2.2 _ w2 hown hg hat;have HU4:=Lib.hid hU4;clear hown hg hat hU4)
          refine hK.out _ _ (by (try dsimp only);first|with_reducible exact s0|with_reducible exact s1'|with_reducible exact s3|with_reducible exact s4|with_reducible exact s7|with_reducible exact s8) (fun hHeld => ?_)
          clear hK K
          (try simp only [Act.put,zD,zE,zF])
          refine zI (i:=11) (v := ?v32) (by simp only [zA,zC,zB];rfl) (by kernel_rfl) (by kernel_rfl) (by kernel_rfl) (by exact fun _ _ _ h=>h) (Or.inl ⟨by rfl,?y32⟩) hHeld ?r32
          case y32=>(intro w hSw;(try dsimp only at hSw);go_simp<;>with_reducible rfl)
          (try simp only [Act.put,zD,zE,zF])
          refine zS (rs:=[12]) (by kernel_rfl) (by simp) ?_
          refine zM (by simp only [zA,zC,zB];rfl) (fun K hK => ?_) zP
          clear hHeld
          go_simp
          refine hK.out _ _ (by (try dsimp only);first|with_reducible exact s0|with_reducible exact s1'|with_reducible exact s3|with_reducible exact s4|with_reducible exact s7|with_reducible exact s8) (fun hHeld => ?_)
          clear hK K
          (try simp only [Act.put,zD,zE,zF])
          clear hHeld
          refine yR (by kernel_rfl) ?_ _
          clear z7 y7 q7 ca0 ca1 s0 s1' s3 s4 s7 s8
          have HN:Hid (LnS κ w g U ⟨bs,bo,be,bq,bc,bf,bn,conf⟩ κ4 (w2.setCell ⟨bo,7,none⟩ (.slice A' (ch1.length+1) c')) t2 V4 U4 p (.slice Ac p.clause.length cc) (.slice (some ⟨ga,0,none⟩) p.fixed.length cf) (.slice A' (ch1++[(c2, -lit)]).length c') (ch1++[(c2, -lit)])∧(p.fixed.drop (k+1)).foldlM (unsStep n) (t2,ch1++[(c2, -lit)])=some (s1,CH2)∧Kept { s with acty:=p.acty } t2):=Lib.hid ⟨by rw [zJ];exact HU4.out,HFO2.out,HKP.out⟩
          obtain ⟨hk,hlt⟩:=HKL.out
          clear HU4 HK HUR HUC HUU yn
          generalize w2.setCell ⟨bo,7,none⟩ (.slice A' (ch1.length+1) c')=W9 at *
          go_wp2_with fail
          go_roundw
          case rel=>exact ⟨k+1,κ4,t2,V4,U4,ch1++[(c2, -lit)],A',c',by omega,by go_num,HN⟩
          case measure=>simp [intOf];omega
      ·rw [if_neg hlb0] at hfo;cases hfo
     ·obtain rfl:k=p.fixed.length:=by omega
      obtain ⟨hU,hfo,hkp⟩:=HS2.out
      rw [qY (Nat.le_refl _)] at hfo
      injection hfo with hfo
      obtain ⟨rfl,rfl⟩:t1=s1∧ch1=CH2:=by injection hfo with e1 e2;exact ⟨e1,e2⟩
      have yk:¬(p.fixed.length<p.fixed.length):=by omega
      have hac:t1.acty=p.acty:=by obtain ⟨_,_,_,rfl⟩:=hkp;rfl
      have htr:t1.e.tr=s.e.tr:=by obtain ⟨_,_,_,rfl⟩:=hkp;rfl
      obtain ⟨Wd,hWd⟩:∃Wd,Wd=wr.drew:=⟨_,rfl⟩
      have HUU:Hid (LnS κ w g U ⟨bs,bo,be,bq,bc,bf,bn,conf⟩ κ2 Wd t1 V2 U2 p (.slice Ac p.clause.length cc) (.slice Af p.fixed.length cf) (.slice Av ch1.length cv1) ch1):=by refine Lib.hid ?_;rw [hWd];exact hU.drewN 1
      have hm1:=HUU.out.sol hac
      obtain ⟨ga,ca,hva, -, -,ha1,ha2,hcc, -⟩:=hm1.eng.tr.open_ (by rw [htr];have:=HVT.out.2;omega)
      have q6:=hm1.eng.cellE (i:=6) rfl
      rw [hva,htr,HVT.out.2] at q6
      rw [htr,HVT.out.2] at ha1
      unfold maxLen at ha2
      have qt:=hcc j _ (wU (getD_at (by rw [htr,HVT.out.2];exact HJT.out)))
      rw [htr,HTT.out] at qt
      have HIN2:Hid (installF f t1 (-t::p.clause) ⟨wF,conf,ch1⟩=some s2):=by have:=HIN.out;rw [HTT.out] at this;exact Lib.hid this
      have yn:IntKind.i64.wrap (-t) = -t:=by have:=HHI2.out;rw [qS];omega
      have HS20:Hid (∀(κx:Kap) (wx:World),HB κx wx (.tmp 0) bs 77 #[.pointer (some ⟨g,0,none⟩)]→HB κx wx (.tmp 1) bo 94 (orgA conf (.slice Av ch1.length cv1))→HB κx wx (.tmp 4) bc 33 #[.slice Ac p.clause.length cc]→(wx.cell? ⟨bs,0,none⟩=some (.pointer (some ⟨g,0,none⟩))∧wx.cell? ⟨bc,0,none⟩=some (.slice Ac p.clause.length cc)∧wx.cell? ⟨bo,0,none⟩=some (.int .i64 0)∧wx.cell? ⟨bo,1,none⟩=some (.int .i64 0)∧wx.cell? ⟨bo,2,none⟩=some (.slice none 0 0)∧wx.cell? ⟨bo,3,none⟩=some (.int .i64 0)∧wx.cell? ⟨bo,4,none⟩=some (.int .i64 0)∧wx.cell? ⟨bo,5,none⟩=some (.int .i64 0)∧wx.cell? ⟨bo,6,none⟩=some (.int .i64 (conf:Int))∧wx.cell? ⟨bo,7,none⟩=some (.slice Av ch1.length cv1))) :=
       Lib.hid fun κx wx h1 h2 h3=>⟨h1.cell 0,h3.cell 0,h2.cell 0,h2.cell 1,h2.cell 2,h2.cell 3,h2.cell 4,h2.cell 5,h2.cell 6,h2.cell 7⟩
      have s1':=HS20.out κ2 Wd HUU.out.sb HUU.out.ob HUU.out.cb
      have s2':=HS20.out κ2 (Wd.alloc (.cells #[.int .i64 (-t)] 3)) (HUU.out.alloc _).sb (HUU.out.alloc _).ob (HUU.out.alloc _).cb
      have s0:=s1'
      rw [hWd] at s0
      have HOW1:Hid ((Wd.alloc (.cells #[.int .i64 (-t)] 3)).ownsRow 0 3 1 (.slice (some ⟨Wd.heap.size,0,none⟩) 1 1) 1 [.int .i64 (-t)]):=Lib.hid (one_row Wd (-t))
      have HOW2:Hid ((Wd.alloc (.cells #[.int .i64 (-t)] 3)).ownsRow 0 3 1 (.slice Ac p.clause.length cc) p.clause.length (ci p.clause)):=Lib.hid (HUU.out.alloc _).cr.o
      have HOC:Hid (∀u∈ci p.clause,u.oneCell'=true):=Lib.hid (by intro u hu;unfold ci at hu;obtain ⟨x, -,rfl⟩:=List.mem_map.1 hu;rfl)
      have HMX:Hid (1+p.clause.length≤maxLen∧(1+p.clause.length) * 8≤140737488355328):=by
       refine Lib.hid ?_
       have h1:=HPP.out.le
       unfold maxLen
       omega
      have HKEY:Hid (∀v' w2,w2.ownsRow 0 3 1 v' (1+p.clause.length) ([.int .i64 (-t)]++ci p.clause)→(Wd.alloc (.cells #[.int .i64 (-t)] 3)).grownBy w2 (some Wd.heap.size)→(v'.ownBlock=some Wd.heap.size∨v'.ownBlock=some (Wd.alloc (.cells #[.int .i64 (-t)] 3)).heap.size) →
        (w2.cell? ⟨bs,0,none⟩=some (.pointer (some ⟨g,0,none⟩))∧w2.cell? ⟨bc,0,none⟩=some (.slice Ac p.clause.length cc)∧w2.cell? ⟨bo,0,none⟩=some (.int .i64 0)∧w2.cell? ⟨bo,1,none⟩=some (.int .i64 0)∧w2.cell? ⟨bo,2,none⟩=some (.slice none 0 0)∧w2.cell? ⟨bo,3,none⟩=some (.int .i64 0)∧w2.cell? ⟨bo,4,none⟩=some (.int .i64 0)∧w2.cell? ⟨bo,5,none⟩=some (.int .i64 0)∧w2.cell? ⟨bo,6,none⟩=some (.int .i64 (conf:Int))∧w2.cell? ⟨bo,7,none⟩=some (.slice Av ch1.length cv1))∧Calls Try.prog 83 #[.pointer (some ⟨g,0,none⟩),v', .agg #[.int .i64 0, .int .i64 0, .slice none 0 0, .int .i64 0, .int .i64 0, .int .i64 0, .int .i64 (conf:Int), .slice Av ch1.length cv1]] w2 (fun en w9=>wP κ w g U wO (.tuple #[]) s2 en w9∧(w9.cell? ⟨bs,0,none⟩=some (.pointer (some ⟨g,0,none⟩))∧w9.cell? ⟨bc,0,none⟩=some (.slice Ac p.clause.length cc)∧w9.cell? ⟨bo,0,none⟩=some (.int .i64 0)∧w9.cell? ⟨bo,1,none⟩=some (.int .i64 0)∧w9.cell? ⟨bo,2,none⟩=some (.slice none 0 0)∧w9.cell? ⟨bo,3,none⟩=some (.int .i64 0)∧w9.cell? ⟨bo,4,none⟩=some (.int .i64 0)∧w9.cell? ⟨bo,5,none⟩=some (.int .i64 0)∧w9.cell? ⟨bo,6,none⟩=some (.int .i64 (conf:Int))∧w9.cell? ⟨bo,7,none⟩=some (.slice Av ch1.length cv1)))):=by
       refine Lib.hid fun v' w2 k1 k2 k3 => ?_
       obtain ⟨κ5,m5,f5,x5,c5,b0,b1,b4⟩:=HUU.out.last (x := -t) (by omega) k1 k2 k3
       have m5':SolM κ5 w2 g t1 V2 U2:=by rw [←hac] at m5;exact m5
       have f5':Fr κ κ5 w w2 wO:=f5.mono fun c hc=>lrnC_sol hc
       refine ⟨HS20.out κ5 w2 b0 b1 b4,?_⟩
       have hd5:DU κ5 w2 U2.av f.atoms:=by rw [HUU.out.sm.2.2.2.1];exact HD.out.1.fr f5'
       refine (oL m5' hd5 HD.out.2 x5 c5 HIN2.out).mono ?_
       rintro en w9 ⟨he,κ9,V9,U9,m9,f9,s9⟩
       exact ⟨⟨he,κ9,V9,U9,m9,f5'.trans f9,HUU.out.sm.trans s9⟩,HS20.out κ9 w9 (b0.fr f9 id) (b1.fr f9 id) (b4.fr f9 id)⟩
      have yj:(j:Int)<(T:Int):=by have:=HJT.out;omega
      clear hU hfo hkp HS2 hk hlt hac htr hm1 hva hcc
      go_upto_region 20 with fail
      refine yF (S:=fun w'=>w'.cell? ⟨bs,0,none⟩=some (.pointer (some ⟨g,0,none⟩))∧w'.cell? ⟨bc,0,none⟩=some (.slice Ac p.clause.length cc)∧w'.cell? ⟨bo,0,none⟩=some (.int .i64 0)∧w'.cell? ⟨bo,1,none⟩=some (.int .i64 0)∧w'.cell? ⟨bo,2,none⟩=some (.slice none 0 0)∧w'.cell? ⟨bo,3,none⟩=some (.int .i64 0)∧w'.cell? ⟨bo,4,none⟩=some (.int .i64 0)∧w'.cell? ⟨bo,5,none⟩=some (.int .i64 0)∧w'.cell? ⟨bo,6,none⟩=some (.int .i64 (conf:Int))∧w'.cell? ⟨bo,7,none⟩=some (.slice Av ch1.length cv1)) (by kernel_rfl) (by (try dsimp only);first|with_reducible exact s0|with_reducible exact s1'|with_reducible exact s2'|with_reducible exact s7|with_reducible exact s8) (fun hHeld => ?_)
      rw [←hWd]
      rw [←hWd] at hHeld
      clear hWd
      refine zI (i:=0) (v := ?v33) (by simp only [zA,zB];rfl) (by kernel_rfl) (by kernel_rfl) (by kernel_rfl) (by exact fun _ _ _ h=>h) (Or.inl ⟨by rfl,?y33⟩) hHeld ?r33
      case y33=>(intro w hSw;(try dsimp only at hSw);go_simp<;>with_reducible rfl)
      (try simp only [Act.put,zD,zE,zF])
      refine zI (i:=1) (v := ?v34) (by simp only [zA,zC,zB];rfl) (by kernel_rfl) (by kernel_rfl) (by kernel_rfl) (by exact fun _ _ _ h=>h) (Or.inl ⟨by rfl,?y34⟩) hHeld ?r34
      case y34=>(intro w hSw;(try dsimp only at hSw);go_simp<;>with_reducible rfl)
      (try simp only [Act.put,zD,zE,zF])
      refine zI (i:=2) (v := ?v35) (by simp only [zA,zC,zB];rfl) (by kernel_rfl) (by kernel_rfl) (by kernel_rfl) (by exact fun _ _ _ h=>h) (Or.inl ⟨by rfl,?y35⟩) hHeld ?r35
      case y35=>(intro w hSw;(try dsimp only at hSw);go_simp<;>with_reducible rfl)
      (try simp only [Act.put,zD,zE,zF])
      refine zI (i:=3) (v := ?v36) (by simp only [zA,zC,zB];rfl) (by kernel_rfl) (by kernel_rfl) (by kernel_rfl) (by exact fun _ _ _ h=>h) (Or.inl ⟨by rfl,?y36⟩) hHeld ?r36
      case y36=>(intro w hSw;(try dsimp only at hSw);go_simp<;>with_reducible rfl)
      (try simp only [Act.put,zD,zE,zF])
      refine zI (i:=4) (v := ?v37) (by simp only [zA,zC,zB];rfl) (by kernel_rfl) (by kernel_rfl) (by kernel_rfl) (by exact fun _ _ _ h=>h) (Or.inl ⟨by rfl,?y37⟩) hHeld ?r37
      case y37=>(intro w hSw;(try dsimp only at hSw);go_simp<;>with_reducible rfl)
      (try simp only [Act.put,zD,zE,zF])
      refine zI (i:=6) (v := ?v38) (by simp only [zA,zC,zB];rfl) (by kernel_rfl) (by kernel_rfl) (by kernel_rfl) (by exact fun _ _ _ h=>h) (Or.inl ⟨by rfl,?y38⟩) hHeld ?r38
      case y38=>(intro w hSw;(try dsimp only at hSw);go_simp<;>with_reducible rfl)
      (try simp only [Act.put,zD,zE,zF])
      refine zI (i:=11) (v := ?v39) (by simp only [zA,zC,zB];rfl) (by kernel_rfl) (by kernel_rfl) (by kernel_rfl) (by exact fun _ _ _ h=>h) (Or.inl ⟨by rfl,?y39⟩) hHeld ?r39
      case y39=>(intro w hSw;(try dsimp only at hSw);go_simp<;>with_reducible rfl)
      (try simp only [Act.put,zD,zE,zF])
      refine zI (i:=13) (v := ?v40) (by simp only [zA,zC,zB];rfl) (by kernel_rfl) (by kernel_rfl) (by kernel_rfl) (by exact fun _ _ _ h=>h) (Or.inl ⟨by rfl,?y40⟩) hHeld ?r40
      case y40=>(intro w hSw;(try dsimp only at hSw);go_simp<;>with_reducible rfl)
      (try simp only [Act.put,zD,zE,zF])
      refine zS (rs:=[5]) (by kernel_rfl) (by simp) ?_
      refine zM (by simp only [zA,zC,zB];rfl) (fun K hK => ?_) zP
      clear hHeld
      go_simp
      refine hK.out _ _ (by (try dsimp only);first|with_reducible exact s0|with_reducible exact s1'|with_reducible exact s2'|with_reducible exact s7|with_reducible exact s8) (fun hHeld => ?_)
      clear hK K
      (try simp only [Act.put,zD,zE,zF])
      refine zI (i:=7) (v := ?v41) (by simp only [zA,zC,zB];rfl) (by kernel_rfl) (by kernel_rfl) (by kernel_rfl) (by exact fun _ _ _ h=>h) (Or.inl ⟨by rfl,?y41⟩) hHeld ?r41
      case y41=>(intro w hSw;(try dsimp only at hSw);go_simp<;>with_reducible rfl)
      (try simp only [Act.put,zD,zE,zF])
      refine zS (rs:=[8]) (by kernel_rfl) (by simp) ?_
      refine zM (by simp only [zA,zC,zB];rfl) (fun K hK => ?_) zP
      clear hHeld
      go_simp
      refine hK.out _ _ (by (try dsimp only);first|with_reducible exact s0|with_reducible exact s1'|with_reducible exact s2'|with_reducible exact s7|with_reducible exact s8) (fun hHeld => ?_)
      clear hK K
      (try simp only [Act.put,zD,zE,zF])
      refine zI (i:=9) (v := ?v42) (by simp only [zA,zC,zB];rfl) (by kernel_rfl) (by kernel_rfl) (by kernel_rfl) (by exact fun _ _ _ h=>h) (Or.inl ⟨by rfl,?y42⟩) hHeld ?r42
      case y42=>(intro w hSw;(try dsimp only at hSw);go_simp<;>with_reducible rfl)
      (try simp only [Act.put,zD,zE,zF])
      refine zS (rs:=[10]) (by kernel_rfl) (by simp) ?_
      refine zM (by simp only [zA,zC,zB];rfl) (fun K hK => ?_) zP
      clear hHeld
      go_simp
      refine hK.out _ _ (by (try dsimp only);first|with_reducible exact s0|with_reducible exact s1'|with_reducible exact s2'|with_reducible exact s7|with_reducible exact s8) (fun hHeld => ?_)
      clear hK K
      (try simp only [Act.put,zD,zE,zF])
      refine zS (rs:=[12]) (by kernel_rfl) (by simp) ?_
      refine zM (by simp only [zA,zC,zB];rfl) (fun K hK => ?_) zP
      clear hHeld
      (refine iB rfl (.tmp 115) (.tmp 116) 33 rfl 3 iI (.int .i64 0) 1 8 Try.underlying33 hiI hzI0 hzI1 hzI2 rfl (by decide) Wd.heap.size 1 1 [.int .i64 (-t)] (by first|rfl|(simp [Act.eval];done)|(simp [Act.eval,Act.put];done)) HOW1.out (.slice Ac p.clause.length cc) p.clause.length (ci p.clause) (by first|rfl|(simp [Act.eval];done)|(simp [Act.eval,Act.put];done)) HOW2.out HOC.out HMX.out.1 HMX.out.2 ?_;intro v' w2 hown hg hat;obtain ⟨A',c',hv', -, -, -⟩:=wB hown;subst hv';obtain ⟨s7,hK9⟩:=HKEY.out _ w2 hown hg hat;have HK:=Lib.hid hK9;clear hown hg hat hK9)
      refine hK.out _ _ (by (try dsimp only);first|with_reducible exact s0|with_reducible exact s1'|with_reducible exact s2'|with_reducible exact s7|with_reducible exact s8) (fun hHeld => ?_)
      clear hK K
      (try simp only [Act.put,zD,zE,zF])
      refine zS (rs:=[14]) (by kernel_rfl) (by simp) ?_
      refine zM (by simp only [zA,zC,zB];rfl) (fun K hK => ?_) zP
      clear hHeld
      (refine wC rfl 83 _ _ rfl _ Try.func83 (by kernel_rfl) (by kernel_rfl) #[.pointer (some ⟨g,0,none⟩), .slice A' (1+p.clause.length) c', .agg #[.int .i64 0, .int .i64 0, .slice none 0 0, .int .i64 0, .int .i64 0, .int .i64 0, .int .i64 (conf:Int), .slice Av ch1.length cv1]] (by first|rfl|(simp [Act.eval];done)|(simp [Act.eval,Act.put];done)) HK.out (fun e w' h=>⟨_,h.1.1⟩) ?_;intro vu wu hu;have hv9:=hu.1.1;injection hv9 with hv9;subst hv9;have s8:=hu.2;have HFIN:=Lib.hid hu.1;clear hu)
      refine hK.out _ _ (by (try dsimp only);first|with_reducible exact s0|with_reducible exact s1'|with_reducible exact s2'|with_reducible exact s7|with_reducible exact s8) (fun hHeld => ?_)
      clear hK K
      (try simp only [Act.put,zD,zE,zF])
      clear hHeld
      refine yR (by kernel_rfl) ?_ _
      clear s0 s1' s2' s7 s8 q6 qt HOW1 HOW2 HKEY HUU HK yn
      go_wp2_with fail
      go_end0
      exact HFIN.out
   ·obtain ⟨q,hrq,hqc,hqa,hchl,ho1,ho2,hql,hsc2⟩:∃q:Nat,s.e.rsn.getD v 0=q∧q<s.e.cls.length∧(s.e.cl q).all (litB s.e.val.length)=true∧ch.length<LIM∧1<p.opn∧p.opn<LIM∧(s.e.cl q).length<LIM∧dK s.e j (wE s.e.lvl s.e.st.length { p with opn:=p.opn-1 } (s.e.cl q)) (ch++[(q,t)])=some (K,P,CH):=by
     rcases hcase with h|h
     ·rw [hsn] at h;cases h.1
     ·rcases h.2 with h|h
      ·exact absurd h.1 ho
      ·exact h.2
    obtain ⟨j2,hj2, -⟩:=dR hsc2
    have yo:decide (p.opn=1)=false:=by simpa using ho
    have yw:wrap64 (p.opn-1)=p.opn-1:=by unfold wrap64;unfold LIM at ho2;omega
    have HU1:=Lib.hid (hU.open_ (p.opn-1))
    have zn:=hU.nb.frozen 0
    have HQ:=Lib.hid (And.intro hqc (And.intro hqa (And.intro hql (And.intro ho1 ho2))))
    have HRQ:=Lib.hid hrq
    have HSN:Hid (dK s.e (j2+1) (wE s.e.lvl s.e.st.length { p with opn:=p.opn-1 } (s.e.cl q)) (ch++[(q,t)])=some (K,P,CH)):=Lib.hid (by rw [←hj2];exact hsc2)
    have HLP2:Hid (LpB B (wE s.e.lvl s.e.st.length { p with opn:=p.opn-1 } (s.e.cl q))):=by
     rw [qH] at hqa
     have h0:LpB s.e.val.length { p with opn:=p.opn-1 }:=by rw [HBL.out];exact ⟨hP.sl,hP.ct⟩
     have:=eE (lvl:=s.e.lvl) (cur:=s.e.st.length) _ _ h0 hqa
     rw [HBL.out] at this
     exact Lib.hid this
    have HPL:=Lib.hid (And.intro hP.sl hP.ct)
    have HJ2:=Lib.hid hj2
    have HMX:Hid (ch.length+1≤maxLen∧(ch.length+1) * 16≤140737488355328):=by refine Lib.hid ?_;unfold LIM at hchl;unfold maxLen;omega
    clear hU hP hsc hcase hj' hlb l0 l1 hi c4 c7 c8 htt hsn HS HUU hjT hrq hqc hqa hchl ho1 ho2 hql hsc2 hj2 HPP
    go_upto_region 13 with (first|(go_at_call 64;refine (HV.out _).mono ?_;rintro en W2 ⟨rfl,rfl⟩))
    clear qt qs qe qn qq c6 zn yo yw ho
    generalize wr.setCell ⟨bn,0,none⟩ (.int .i64 (p.opn-1))=W1 at *
    have HS5:Hid (∀(κx:Kap) (wx:World),SolM κx wx g { s with acty:=p.acty } V U→HB κx wx (.tmp 0) bs 77 #[.pointer (some ⟨g,0,none⟩)]→wx.cell? ⟨bs,0,none⟩=some (.pointer (some ⟨g,0,none⟩))∧wx.cell? ⟨g,4,none⟩=some (.slice (some ⟨V.gr,0,none⟩) B B)∧wx.cell? ⟨V.gr,v,none⟩=some (.int .i64 (q:Int))∧wx.cell? ⟨g,6,none⟩=some (.slice (some ⟨gt,0,none⟩) T ct)∧wx.cell? ⟨gt,j,none⟩=some (.int .i64 t)):=by
     refine Lib.hid fun κx wx hm hb => ?_
     obtain ⟨c4,c6,c7,c8⟩:=HCE.out κx wx p.acty hm
     have h7:=c7 j HJT.out
     have h8:=c8 v HL1.out
     rw [HTT.out] at h7
     rw [HRQ.out] at h8
     exact ⟨hb.cell 0,c4,h8,c6,h7⟩
    obtain ⟨Wd,hWd⟩:∃Wd,Wd=W1.drew:=⟨_,rfl⟩
    have HUd:Hid (LnS κ w g U ⟨bs,bo,be,bq,bc,bf,bn,conf⟩ κ1 Wd s V U { p with opn:=p.opn-1 } cv fv (.slice Ah ch.length chc) ch):=by refine Lib.hid ?_;rw [hWd];exact HU1.out.drewN 1
    clear HU1
    have s1:=HS5.out κ1 Wd HUd.out.m HUd.out.sb
    have s2:=HS5.out κ1 (Wd.alloc (.cells #[.int .i64 (q:Int), .int .i64 t] 115)) (HUd.out.alloc _).m (HUd.out.alloc _).sb
    have s0:=s1
    rw [hWd] at s0
    have q7:=HUd.out.ob.cell 7
    have q7a:=(HUd.out.ob.b.alloc (.cells #[.int .i64 (q:Int), .int .i64 t] 115)).cell 7
    unfold orgA at q7 q7a
    simp only [zA,zB,zC] at q7 q7a
    have HOW:Hid ((Wd.alloc (.cells #[.int .i64 (q:Int), .int .i64 t] 115)).ownsRow 0 115 2 (.slice Ah ch.length chc) ch.length (aC ch)):=Lib.hid (HUd.out.alloc _).hr.o
    have HOC:Hid (∀u∈([.int .i64 (q:Int), .int .i64 t]:List Value),u.oneCell'=true):=Lib.hid (by intro u hu;simp at hu;rcases hu with rfl|rfl<;>rfl)
    have HCA:=Lib.hid (wY Wd 115 [.int .i64 (q:Int), .int .i64 t] rfl)
    have HKEY:Hid (∀v' w2,w2.ownsRow 0 115 2 v' (ch.length+1) (aC ch++[.int .i64 (q:Int), .int .i64 t])→(Wd.alloc (.cells #[.int .i64 (q:Int), .int .i64 t] 115)).grownBy w2 (Value.slice Ah ch.length chc).ownBlock→(v'.ownBlock=(Value.slice Ah ch.length chc).ownBlock∨v'.ownBlock=some (Wd.alloc (.cells #[.int .i64 (q:Int), .int .i64 t] 115)).heap.size) →
      w2.frozen? ⟨bo,7,none⟩=false∧w2.cell? ⟨bo,7,none⟩=some (.slice Ah ch.length chc)∧(w2.cell? ⟨bs,0,none⟩=some (.pointer (some ⟨g,0,none⟩))∧w2.cell? ⟨g,4,none⟩=some (.slice (some ⟨V.gr,0,none⟩) B B)∧w2.cell? ⟨V.gr,v,none⟩=some (.int .i64 (q:Int))∧w2.cell? ⟨g,6,none⟩=some (.slice (some ⟨gt,0,none⟩) T ct)∧w2.cell? ⟨gt,j,none⟩=some (.int .i64 t))∧((w2.setCell ⟨bo,7,none⟩ v').cell? ⟨bs,0,none⟩=some (.pointer (some ⟨g,0,none⟩))∧(w2.setCell ⟨bo,7,none⟩ v').cell? ⟨g,4,none⟩=some (.slice (some ⟨V.gr,0,none⟩) B B)∧(w2.setCell ⟨bo,7,none⟩ v').cell? ⟨V.gr,v,none⟩=some (.int .i64 (q:Int))∧(w2.setCell ⟨bo,7,none⟩ v').cell? ⟨g,6,none⟩=some (.slice (some ⟨gt,0,none⟩) T ct)∧(w2.setCell ⟨bo,7,none⟩ v').cell? ⟨gt,j,none⟩=some (.int .i64 t)) ∧
       ∃κ4,LnS κ w g U ⟨bs,bo,be,bq,bc,bf,bn,conf⟩ κ4 (w2.setCell ⟨bo,7,none⟩ v') s V U { p with opn:=p.opn-1 } cv fv v' (ch++[(q,t)])):=by
     refine Lib.hid fun v' w2 a1 a2 a3 => ?_
     obtain ⟨κ4,e1,e2,e3,e4⟩:=HUd.out.link (q:=(q,t)) (o:=(.cells #[.int .i64 (q:Int), .int .i64 t] 115)) a1 a2 a3
     exact ⟨e2,e3,HS5.out κ4 w2 (HUd.out.m.fr e4 fun c hc e=>by subst e;exact hc) (HUd.out.sb.fr e4 (by simp)),HS5.out κ4 _ e1.m e1.sb,κ4,e1⟩
    refine yF (S:=fun w'=>w'.cell? ⟨bs,0,none⟩=some (.pointer (some ⟨g,0,none⟩))∧w'.cell? ⟨g,4,none⟩=some (.slice (some ⟨V.gr,0,none⟩) B B)∧w'.cell? ⟨V.gr,v,none⟩=some (.int .i64 (q:Int))∧w'.cell? ⟨g,6,none⟩=some (.slice (some ⟨gt,0,none⟩) T ct)∧w'.cell? ⟨gt,j,none⟩=some (.int .i64 t)) (by kernel_rfl) (by (try dsimp only);first|with_reducible exact s0|with_reducible exact s1|with_reducible exact s2|with_reducible exact s8|with_reducible exact s7) (fun hHeld => ?_)
    rw [←hWd]
    rw [←hWd] at hHeld
    clear hWd
    refine zI (i:=0) (v := ?v1) (by simp only [zA,zB];rfl) (by kernel_rfl) (by kernel_rfl) (by kernel_rfl) (by exact fun _ _ _ h=>h) (Or.inl ⟨by rfl,?y1⟩) hHeld ?r1
    case y1=>(intro w hSw;(try dsimp only at hSw);go_simp<;>with_reducible rfl)
    (try simp only [Act.put,zD,zE,zF])
    refine zI (i:=2) (v := ?v2) (by simp only [zA,zC,zB];rfl) (by kernel_rfl) (by kernel_rfl) (by kernel_rfl) (by exact fun _ _ _ h=>h) (Or.inl ⟨by rfl,?y2⟩) hHeld ?r2
    case y2=>(intro w hSw;(try dsimp only at hSw);go_simp<;>with_reducible rfl)
    (try simp only [Act.put,zD,zE,zF])
    refine zI (i:=3) (v := ?v3) (by simp only [zA,zC,zB];rfl) (by kernel_rfl) (by kernel_rfl) (by kernel_rfl) (by exact fun _ _ _ h=>h) (Or.inl ⟨by rfl,?y3⟩) hHeld ?r3
    case y3=>(intro w hSw;(try dsimp only at hSw);go_simp<;>with_reducible rfl)
    (try simp only [Act.put,zD,zE,zF])
    refine zI (i:=4) (v := ?v4) (by simp only [zA,zC,zB];rfl) (by kernel_rfl) (by kernel_rfl) (by kernel_rfl) (by exact fun _ _ _ h=>h) (Or.inl ⟨by rfl,?y4⟩) hHeld ?r4
    case y4=>(intro w hSw;(try dsimp only at hSw);go_simp<;>with_reducible rfl)
    (try simp only [Act.put,zD,zE,zF])
    refine zI (i:=5) (v := ?v5) (by simp only [zA,zC,zB];rfl) (by kernel_rfl) (by kernel_rfl) (by kernel_rfl) (by exact fun _ _ _ h=>h) (Or.inl ⟨by rfl,?y5⟩) hHeld ?r5
    case y5=>(intro w hSw;(try dsimp only at hSw);go_simp<;>with_reducible rfl)
    (try simp only [Act.put,zD,zE,zF])
    refine zI (i:=6) (v := ?v6) (by simp only [zA,zC,zB];rfl) (by kernel_rfl) (by kernel_rfl) (by kernel_rfl) (by exact fun _ _ _ h=>h) (Or.inl ⟨by rfl,?y6⟩) hHeld ?r6
    case y6=>(intro w hSw;(try dsimp only at hSw);go_simp<;>with_reducible rfl)
    (try simp only [Act.put,zD,zE,zF])
    refine zI (i:=7) (v := ?v7) (by simp only [zA,zC,zB];rfl) (by kernel_rfl) (by kernel_rfl) (by kernel_rfl) (by exact fun _ _ _ h=>h) (Or.inl ⟨by rfl,?y7⟩) hHeld ?r7
    case y7=>(intro w hSw;(try dsimp only at hSw);go_simp<;>with_reducible rfl)
    (try simp only [Act.put,zD,zE,zF])
    refine zI (i:=8) (v := ?v8) (by simp only [zA,zC,zB];rfl) (by kernel_rfl) (by kernel_rfl) (by kernel_rfl) (by exact fun _ _ _ h=>h) (Or.inl ⟨by rfl,?y8⟩) hHeld ?r8
    case y8=>(intro w hSw;(try dsimp only at hSw);go_simp<;>with_reducible rfl)
    (try simp only [Act.put,zD,zE,zF])
    refine zI (i:=9) (v := ?v9) (by simp only [zA,zC,zB];rfl) (by kernel_rfl) (by kernel_rfl) (by kernel_rfl) (by exact fun _ _ _ h=>h) (Or.inl ⟨by rfl,?y9⟩) hHeld ?r9
    case y9=>(intro w hSw;(try dsimp only at hSw);go_simp<;>with_reducible rfl)
    (try simp only [Act.put,zD,zE,zF])
    refine zI (i:=10) (v := ?v10) (by simp only [zA,zC,zB];rfl) (by kernel_rfl) (by kernel_rfl) (by kernel_rfl) (by exact fun _ _ _ h=>h) (Or.inl ⟨by rfl,?y10⟩) hHeld ?r10
    case y10=>(intro w hSw;(try dsimp only at hSw);go_simp<;>with_reducible rfl)
    (try simp only [Act.put,zD,zE,zF])
    refine zI (i:=11) (v := ?v11) (by simp only [zA,zC,zB];rfl) (by kernel_rfl) (by kernel_rfl) (by kernel_rfl) (by exact fun _ _ _ h=>h) (Or.inl ⟨by rfl,?y11⟩) hHeld ?r11
    case y11=>(intro w hSw;(try dsimp only at hSw);go_simp<;>with_reducible rfl)
    (try simp only [Act.put,zD,zE,zF])
    refine zI (i:=12) (v := ?v12) (by simp only [zA,zC,zB];rfl) (by kernel_rfl) (by kernel_rfl) (by kernel_rfl) (by exact fun _ _ _ h=>h) (Or.inl ⟨by rfl,?y12⟩) hHeld ?r12
    case y12=>(intro w hSw;(try dsimp only at hSw);go_simp<;>with_reducible rfl)
    (try simp only [Act.put,zD,zE,zF])
    refine zI (i:=13) (v := ?v13) (by simp only [zA,zC,zB];rfl) (by kernel_rfl) (by kernel_rfl) (by kernel_rfl) (by exact fun _ _ _ h=>h) (Or.inl ⟨by rfl,?y13⟩) hHeld ?r13
    case y13=>(intro w hSw;(try dsimp only at hSw);go_simp<;>with_reducible rfl)
    (try simp only [Act.put,zD,zE,zF])
    refine zI (i:=14) (v := ?v14) (by simp only [zA,zC,zB];rfl) (by kernel_rfl) (by kernel_rfl) (by kernel_rfl) (by exact fun _ _ _ h=>h) (Or.inl ⟨by rfl,?y14⟩) hHeld ?r14
    case y14=>(intro w hSw;(try dsimp only at hSw);go_simp<;>with_reducible rfl)
    (try simp only [Act.put,zD,zE,zF])
    refine zI (i:=15) (v := ?v15) (by simp only [zA,zC,zB];rfl) (by kernel_rfl) (by kernel_rfl) (by kernel_rfl) (by exact fun _ _ _ h=>h) (Or.inl ⟨by rfl,?y15⟩) hHeld ?r15
    case y15=>(intro w hSw;(try dsimp only at hSw);go_simp<;>with_reducible rfl)
    (try simp only [Act.put,zD,zE,zF])
    refine zI (i:=16) (v := ?v16) (by simp only [zA,zC,zB];rfl) (by kernel_rfl) (by kernel_rfl) (by kernel_rfl) (by exact fun _ _ _ h=>h) (Or.inl ⟨by rfl,?y16⟩) hHeld ?r16
    case y16=>(intro w hSw;(try dsimp only at hSw);go_simp<;>with_reducible rfl)
    (try simp only [Act.put,zD,zE,zF])
    refine zI (i:=17) (v := ?v17) (by simp only [zA,zC,zB];rfl) (by kernel_rfl) (by kernel_rfl) (by kernel_rfl) (by exact fun _ _ _ h=>h) (Or.inl ⟨by rfl,?y17⟩) hHeld ?r17
    case y17=>(intro w hSw;(try dsimp only at hSw);go_simp<;>with_reducible rfl)
    (try simp only [Act.put,zD,zE,zF])
    refine zI (i:=18) (v := ?v18) (by simp only [zA,zC,zB];rfl) (by kernel_rfl) (by kernel_rfl) (by kernel_rfl) (by exact fun _ _ _ h=>h) (Or.inl ⟨by rfl,?y18⟩) hHeld ?r18
    case y18=>(intro w hSw;(try dsimp only at hSw);go_simp<;>with_reducible rfl)
    (try simp only [Act.put,zD,zE,zF])
    refine zS (rs:=[1,19]) (by kernel_rfl) (by simp) ?_
    refine zM (by simp only [zA,zC,zB];rfl) (fun K hK => ?_) (zM (by simp only [zA,zC,zB];rfl) (fun K hK => ?_) zP)
    ·clear hHeld
     go_simp
     refine hK.out _ _ (by (try dsimp only);first|with_reducible exact s0|with_reducible exact s1|with_reducible exact s2|with_reducible exact s8|with_reducible exact s7) (fun hHeld => ?_)
     clear hK K
     (try simp only [Act.put,zD,zE,zF])
     refine zS (rs:=[19]) (by kernel_rfl) (by simp) ?_
     refine zM (by simp only [zA,zC,zB];rfl) (fun K hK => ?_) zP
     clear hHeld
     go_simp
     refine hK.out _ _ (by (try dsimp only);first|with_reducible exact s0|with_reducible exact s1|with_reducible exact s2|with_reducible exact s8|with_reducible exact s7) (fun hHeld => ?_)
     clear hK K
     (try simp only [Act.put,zD,zE,zF])
     refine zS (rs:=[20]) (by kernel_rfl) (by simp) ?_
     refine zM (by simp only [zA,zC,zB];rfl) (fun K hK => ?_) zP
     clear hHeld
     (refine jZ rfl (.tmp 55) (.tmp 73) 92 rfl 0 115 iL (.agg #[.int .i64 0, .int .i64 0]) 2 16 Try.underlying92 hiL hzL0 hzL1 hzL2 rfl (by decide) (.slice Ah ch.length chc) ch.length (aC ch) (by first|rfl|(simp [Act.eval];done)|(simp [Act.eval,Act.put];done)) HOW.out ⟨Wd.heap.size,0,none⟩ 1 1 [.int .i64 (q:Int), .int .i64 t] (by first|rfl|(simp [Act.eval];done)|(simp [Act.eval,Act.put];done)) rfl HCA.out HOC.out HMX.out.1 HMX.out.2 (zQ _) ?_;intro v' w2 hown hg hat;obtain ⟨A',c',hv', -, -, -⟩:=wB hown;subst hv';obtain ⟨z7,y7,s7,s8,κ4,hU4⟩:=HKEY.out _ w2 hown hg hat;have HU4:=Lib.hid hU4;clear hown hg hat hU4)
     refine hK.out _ _ (by (try dsimp only);first|with_reducible exact s0|with_reducible exact s1|with_reducible exact s2|with_reducible exact s8|with_reducible exact s7) (fun hHeld => ?_)
     clear hK K
     (try simp only [Act.put,zD,zE,zF])
     refine zI (i:=21) (v := ?v19) (by simp only [zA,zC,zB];rfl) (by kernel_rfl) (by kernel_rfl) (by kernel_rfl) (by exact fun _ _ _ h=>h) (Or.inl ⟨by rfl,?y19⟩) hHeld ?r19
     case y19=>(intro w hSw;(try dsimp only at hSw);go_simp<;>with_reducible rfl)
     (try simp only [Act.put,zD,zE,zF])
     refine zS (rs:=[22]) (by kernel_rfl) (by simp) ?_
     refine zM (by simp only [zA,zC,zB];rfl) (fun K hK => ?_) zP
     clear hHeld
     go_simp
     refine hK.out _ _ (by (try dsimp only);first|with_reducible exact s0|with_reducible exact s1|with_reducible exact s2|with_reducible exact s8|with_reducible exact s7) (fun hHeld => ?_)
     clear hK K
     (try simp only [Act.put,zD,zE,zF])
     clear hHeld
     refine yR (by kernel_rfl) ?_ _
     clear s0 s1 s2 s7 s8 z7 y7 q7 q7a HOW HCA HKEY HUd
     generalize w2.setCell ⟨bo,7,none⟩ (.slice A' (ch.length+1) c')=W4 at *
     have k4:=HS5.out κ4 W4 HU4.out.m HU4.out.sb
     obtain ⟨k4a,k4b,k4c, -, -⟩:=k4
     have HC4:=Lib.hid (HCO.out κ4 W4 _ _ _ _ _ q HU4.out HQ.out.1 HQ.out.2.1 HQ.out.2.2.1 ⟨by have:=HQ.out.2.2.2.1;show 0≤p.opn-1;omega,by have:=HQ.out.2.2.2.2;show p.opn-1≤LIM;omega⟩ (by rw [HBL.out];exact ⟨HPL.out.1,HPL.out.2⟩))
     go_wp2_with fail
     refine HC4.out.mono ?_
     rintro en W5 ⟨rfl,κ5,cv5,fv5,h5⟩
     have HN:Hid (LnS κ w g U ⟨bs,bo,be,bq,bc,bf,bn,conf⟩ κ5 W5 s V U (wE s.e.lvl s.e.st.length { p with opn:=p.opn-1 } (s.e.cl q)) cv5 fv5 (.slice A' (ch++[(q,t)]).length c') (ch++[(q,t)])∧LpB B (wE s.e.lvl s.e.st.length { p with opn:=p.opn-1 } (s.e.cl q))∧dK s.e (j2+1) (wE s.e.lvl s.e.st.length { p with opn:=p.opn-1 } (s.e.cl q)) (ch++[(q,t)])=some (K,P,CH)):=Lib.hid ⟨by rw [zJ];exact h5,HLP2.out,HSN.out⟩
     clear h5 HC4 HU4 k4a k4b k4c
     have yj2:1≤j:=by have:=HJ2.out;omega
     go_wp2_with fail
     have hj2:=HJ2.out
     have hjT:=HJT.out
     go_roundw
     case rel=>exact ⟨j2,κ5,_,cv5,fv5,A',ch++[(q,t)],c',by omega,by go_num,HN⟩
     case measure=>simp [intOf];omega
    ·clear hHeld
     go_simp
     refine hK.out _ _ (by (try dsimp only);first|with_reducible exact s0|with_reducible exact s1|with_reducible exact s2|with_reducible exact s8|with_reducible exact s7) (fun hHeld => ?_)
     clear hK K
     (try simp only [Act.put,zD,zE,zF])
     refine zS (rs:=[1]) (by kernel_rfl) (by simp) ?_
     refine zM (by simp only [zA,zC,zB];rfl) (fun K hK => ?_) zP
     clear hHeld
     go_simp
     refine hK.out _ _ (by (try dsimp only);first|with_reducible exact s0|with_reducible exact s1|with_reducible exact s2|with_reducible exact s8|with_reducible exact s7) (fun hHeld => ?_)
     clear hK K
     (try simp only [Act.put,zD,zE,zF])
     refine zS (rs:=[20]) (by kernel_rfl) (by simp) ?_
     refine zM (by simp only [zA,zC,zB];rfl) (fun K hK => ?_) zP
     clear hHeld
     (refine jZ rfl (.tmp 55) (.tmp 73) 92 rfl 0 115 iL (.agg #[.int .i64 0, .int .i64 0]) 2 16 Try.underlying92 hiL hzL0 hzL1 hzL2 rfl (by decide) (.slice Ah ch.length chc) ch.length (aC ch) (by first|rfl|(simp [Act.eval];done)|(simp [Act.eval,Act.put];done)) HOW.out ⟨Wd.heap.size,0,none⟩ 1 1 [.int .i64 (q:Int), .int .i64 t] (by first|rfl|(simp [Act.eval];done)|(simp [Act.eval,Act.put];done)) rfl HCA.out HOC.out HMX.out.1 HMX.out.2 (zQ _) ?_;intro v' w2 hown hg hat;obtain ⟨A',c',hv', -, -, -⟩:=wB hown;subst hv';obtain ⟨z7,y7,s7,s8,κ4,hU4⟩:=HKEY.out _ w2 hown hg hat;have HU4:=Lib.hid hU4;clear hown hg hat hU4)
     refine hK.out _ _ (by (try dsimp only);first|with_reducible exact s0|with_reducible exact s1|with_reducible exact s2|with_reducible exact s8|with_reducible exact s7) (fun hHeld => ?_)
     clear hK K
     (try simp only [Act.put,zD,zE,zF])
     refine zI (i:=21) (v := ?v20) (by simp only [zA,zC,zB];rfl) (by kernel_rfl) (by kernel_rfl) (by kernel_rfl) (by exact fun _ _ _ h=>h) (Or.inl ⟨by rfl,?y20⟩) hHeld ?r20
     case y20=>(intro w hSw;(try dsimp only at hSw);go_simp<;>with_reducible rfl)
     (try simp only [Act.put,zD,zE,zF])
     refine zS (rs:=[22]) (by kernel_rfl) (by simp) ?_
     refine zM (by simp only [zA,zC,zB];rfl) (fun K hK => ?_) zP
     clear hHeld
     go_simp
     refine hK.out _ _ (by (try dsimp only);first|with_reducible exact s0|with_reducible exact s1|with_reducible exact s2|with_reducible exact s8|with_reducible exact s7) (fun hHeld => ?_)
     clear hK K
     (try simp only [Act.put,zD,zE,zF])
     clear hHeld
     refine yR (by kernel_rfl) ?_ _
     clear s0 s1 s2 s7 s8 z7 y7 q7 q7a HOW HCA HKEY HUd
     generalize w2.setCell ⟨bo,7,none⟩ (.slice A' (ch.length+1) c')=W4 at *
     have k4:=HS5.out κ4 W4 HU4.out.m HU4.out.sb
     obtain ⟨k4a,k4b,k4c, -, -⟩:=k4
     have HC4:=Lib.hid (HCO.out κ4 W4 _ _ _ _ _ q HU4.out HQ.out.1 HQ.out.2.1 HQ.out.2.2.1 ⟨by have:=HQ.out.2.2.2.1;show 0≤p.opn-1;omega,by have:=HQ.out.2.2.2.2;show p.opn-1≤LIM;omega⟩ (by rw [HBL.out];exact ⟨HPL.out.1,HPL.out.2⟩))
     go_wp2_with fail
     refine HC4.out.mono ?_
     rintro en W5 ⟨rfl,κ5,cv5,fv5,h5⟩
     have HN:Hid (LnS κ w g U ⟨bs,bo,be,bq,bc,bf,bn,conf⟩ κ5 W5 s V U (wE s.e.lvl s.e.st.length { p with opn:=p.opn-1 } (s.e.cl q)) cv5 fv5 (.slice A' (ch++[(q,t)]).length c') (ch++[(q,t)])∧LpB B (wE s.e.lvl s.e.st.length { p with opn:=p.opn-1 } (s.e.cl q))∧dK s.e (j2+1) (wE s.e.lvl s.e.st.length { p with opn:=p.opn-1 } (s.e.cl q)) (ch++[(q,t)])=some (K,P,CH)):=Lib.hid ⟨by rw [zJ];exact h5,HLP2.out,HSN.out⟩
     clear h5 HC4 HU4 k4a k4b k4c
     have yj2:1≤j:=by have:=HJ2.out;omega
     go_wp2_with fail
     have hj2:=HJ2.out
     have hjT:=HJT.out
     go_roundw
     case rel=>exact ⟨j2,κ5,_,cv5,fv5,A',ch++[(q,t)],c',by omega,by go_num,HN⟩
     case measure=>simp [intOf];omega
end
end Go.Proofs.Yticieifacalocaa
