/- SolCol SolLrnP SolLrnH -/
import Derived.Test.YticieifacalocaaTSH45
namespace Go.Proofs.Yticieifacalocaa
open Go.RowKit
structure LpB (B:Nat) (p:Lrn):Prop where
 sl:p.seen.length=B
 ct:p.clause.length+p.fixed.length≤p.seen.count true
theorem LpB.le {B:Nat} {p:Lrn} (h:LpB B p):p.clause.length+p.fixed.length≤B:=by
 have:=h.ct;have:=List.count_le_length (a:=true) (l:=p.seen);have:=h.sl;omega
theorem nG {l:List Bool} {v:Nat} (hv:v<l.length) (h:l.getD v false=false):(l.set v true).count true=l.count true+1:=by
 have h1:l[v]=false:=by rw [List.getD_eq_getElem?_getD,List.getElem?_eq_getElem hv] at h;exact h
 rw [List.count_set hv]
 simp [h1]
theorem dU {lvl:List Int} {cur:Nat} {q:Lrn} {lit:Int} (h:q.seen.getD (vr lit) false=true):collectLit lvl cur q lit=q:=by unfold collectLit;rw [if_pos h]
theorem bH {lvl:List Int} {cur:Nat} {q:Lrn} {lit:Int} (h:q.seen.getD (vr lit) false=false):collectLit lvl cur q lit=(if lvl.getD (vr lit) 0=cur then { q with seen:=q.seen.set (vr lit) true,acty:=q.acty.set (vr lit) (w64 (q.acty.getD (vr lit) 0+1)),opn:=q.opn+1 }
  else if lvl.getD (vr lit) 0=0 then { q with seen:=q.seen.set (vr lit) true,acty:=q.acty.set (vr lit) (w64 (q.acty.getD (vr lit) 0+1)),fixed:=q.fixed++[lit] }
  else { q with seen:=q.seen.set (vr lit) true,acty:=q.acty.set (vr lit) (w64 (q.acty.getD (vr lit) 0+1)),clause:=q.clause++[lit] }):=by unfold collectLit;rw [if_neg (by rw [h];simp)]
section
variable {κ0 κ:Kap} {w0 w:World} {g:Nat} {U0 U:SV} {T:LT} {s:Sol} {V:EV} {p:Lrn} {cv fv hv:Value} {ch:List (Nat × Int)}
def sJ (κ0:Kap) (w0:World) (g:Nat) (U0:SV) (T:LT) (s:Sol) (V:EV) (U:SV) (p:Lrn) (hv:Value) (ch:List (Nat × Int)) (en:Ending) (w':World):Prop :=
 en = .returned (.tuple #[])∧∃κ' cv' fv',LnS κ0 w0 g U0 T κ' w' s V U p cv' fv' hv ch
set_option maxRecDepth 100000 in
set_option maxHeartbeats 16000000 in
theorem rA (h:LnS κ0 w0 g U0 T κ w s V U p cv fv hv ch) {c:Nat} (hc:c<s.e.cls.length) (hall:(s.e.cl c).all (litB s.e.val.length)=true) (hlen:(s.e.cl c).length<LIM) (ho:0≤p.opn∧p.opn≤LIM) (hp:LpB s.e.val.length p) :
  Calls Try.prog 82 #[.int .i64 (c:Int), .pointer (some ⟨T.bs,0,none⟩), .pointer (some ⟨T.be,0,none⟩), .pointer (some ⟨T.bn,0,none⟩), .pointer (some ⟨T.bf,0,none⟩), .pointer (some ⟨T.bc,0,none⟩)] w (sJ κ0 w0 g U0 T s V U (wE s.e.lvl s.e.st.length p (s.e.cl c)) hv ch):=by
 obtain ⟨iI,hiI,hzI0,hzI1,hzI2⟩:=qD wV
 have q0:w.cell? ⟨g,0,none⟩=some V.vc:=h.m.eng.cellE (i:=0) rfl
 have hus:V.us.length=s.e.cls.length:=by have:=h.m.eng.cls.o.1;simp at this;omega
 obtain ⟨u,hu⟩:∃u,V.us[c]? = some u:=⟨_,List.getElem?_eq_getElem (by omega)⟩
 obtain ⟨gs,caps,hvs, -, -,hscap,hsm,hsc, -⟩:=h.m.eng.cls.open_ (by simp only;omega)
 have hcl:=h.m.eng.cl c u hu
 obtain ⟨Ac,ccl,hua,hcc1,hcc2⟩:=hcl.shape
 subst hua
 have qc:=hsc c _ hu
 rw [hvs] at q0
 obtain ⟨As,cs,hst,hst1,hst2⟩:=h.m.eng.st.shape
 have qb:=h.sb.cell 0
 simp only [zA,zB] at qb
 simp only at hcl qc q0 hsm hscap hst hst1 hst2 hcc1 hcc2
 have yr:(c:Int)<(s.e.cls.length:Int):=by omega
 have HS:=Lib.hid h
 have HP:=Lib.hid hp
 have HLA:Hid (∀x∈s.e.cl c,litB s.e.val.length x=true):=Lib.hid (by simpa using hall)
 have hB:=h.m.eng.B
 simp only at hB
 have hcl':({ s with acty:=p.acty }:Sol).e.cl c=s.e.cl c:=rfl
 unfold maxLen at hsm hcc2 hst2
 rw [hcl'] at hcc1 hcl
 generalize hL:(s.e.cl c).length=L at *
 have HLN:=Lib.hid hL
 have HO:=Lib.hid ho
 have HU:Hid (V.us[c]? = some (.slice Ac L ccl)):=Lib.hid hu
 have HST:=Lib.hid hst
 generalize hBB:s.e.val.length=B at *
 have HBL:=Lib.hid hBB
 clear h hcl hcl' hall hp ho hus hu hsc hvs hc hL hst hBB
 go_enter Try.func82,Try.ntmps82
 go_wp2_with fail
 clear q0 qc qb
 go_loopw [19] (fun i wr=>∃(k:Nat) (κ1:Kap) (q:Lrn) (cv1 fv1:Value),k≤L∧i = .int .i64 k∧Hid (LnS κ0 w0 g U0 T κ1 wr s V U q cv1 fv1 hv ch∧wE s.e.lvl s.e.st.length q ((s.e.cl c).drop k)=wE s.e.lvl s.e.st.length p (s.e.cl c)∧LpB B q∧0≤q.opn∧q.opn≤(LIM:Int)+k)) (fun i _=>L-(intOf i).toNat)
 case atStart=>exact ⟨0,κ,p,cv,fv,zQ _,rfl,Lib.hid ⟨HS.out,rfl,HP.out,HO.out.1,by have:=HO.out.2;omega⟩⟩
 case round =>
  clear HS HP HO
  obtain ⟨k,κ1,q,cv1,fv1,hk,rfl,HS⟩:=hrel
  by_cases hlt:k<L
  ·obtain ⟨lit,hlit⟩:∃lit,(s.e.cl c)[k]? = some lit:=⟨_,List.getElem?_eq_getElem (by rw [HLN.out];omega)⟩
   have hdr:(s.e.cl c).drop k=lit::(s.e.cl c).drop (k+1):=by
    obtain ⟨h1,h2⟩:=zG.1 hlit
    rw [zT h1,h2]
   obtain ⟨hU,hfo,hq,hq0,hq1⟩:=HS.out
   have hfo:wE s.e.lvl s.e.st.length (collectLit s.e.lvl s.e.st.length q lit) ((s.e.cl c).drop (k+1))=wE s.e.lvl s.e.st.length p (s.e.cl c):=by rw [←hfo,hdr];rfl
   obtain ⟨ga,ca,e1, -, -, -, -,hcc, -⟩:=(hU.m.eng.cl c _ HU.out).open_ (by show 0<(s.e.cl c).length;rw [HLN.out];omega)
   have e2:(s.e.cl c).length=L:=HLN.out
   injection e1 with e1 e4 e3
   clear e4
   subst e1
   subst e3
   have ql:=hcc k _ (wU hlit)
   have hlb:=HLA.out lit (List.mem_of_getElem? hlit)
   obtain ⟨l0,l1⟩:=wN hlb
   have hi:=wZ (by omega) hlb
   have HV:Hid (∀W,Calls Try.prog 64 #[.int .i64 lit] W fun e w'=>e = .returned (.int .i64 (vr lit:Nat))∧W=w'):=Lib.hid fun W=>gI lit l0 hi.1 hi.2 W
   have yk:(k:Int)<(L:Int):=by omega
   have HKL:=Lib.hid (And.intro hk hlt)
   have qe:=hU.eb.cell 0
   simp only [zA,zB] at qe
   rw [HBL.out] at qe
   have HCS:=Lib.hid (dU (lvl:=s.e.lvl) (cur:=s.e.st.length) (q:=q) (lit:=lit))
   have HCN:=Lib.hid (bH (lvl:=s.e.lvl) (cur:=s.e.st.length) (q:=q) (lit:=lit))
   have HFO:=Lib.hid hfo
   generalize vr lit=v at *
   have qs:=dJ hU.qb.b (k:=v) (by rw [hq.sl];exact l1)
   have yv:(v:Int)<(B:Int):=by omega
   have HUU:=Lib.hid hU
   have qb:=hU.sb.cell 0
   simp only [zA,zB] at qb
   cases hsn:q.seen.getD v false with
   | true =>
    rw [hsn] at qs
    have HN:Hid (LnS κ0 w0 g U0 T κ1 wr s V U q cv1 fv1 hv ch∧wE s.e.lvl s.e.st.length q ((s.e.cl c).drop (k+1))=wE s.e.lvl s.e.st.length p (s.e.cl c)∧LpB B q∧0≤q.opn∧q.opn≤(LIM:Int)+(k+1:Nat)):=by
     refine Lib.hid ⟨hU,?_,hq,hq0,by omega⟩
     have h0:=HFO.out
     rw [HCS.out hsn] at h0
     exact h0
    clear hU hfo hq hq0 hq1 hdr hlit hcc hlb l0 hi HS hk hlt HCS HCN HUU HFO
    go_wp2_with fail
    refine (HV.out _).mono ?_
    rintro en W2 ⟨rfl,rfl⟩
    obtain ⟨hk,hlt⟩:=HKL.out
    go_wp2_with fail
    go_roundw
    case rel=>exact ⟨k+1,κ1,q,cv1,fv1,by omega,by go_num,HN⟩
    case measure=>simp [intOf];omega
   | false =>
    rw [hsn] at qs
    have HCN:=Lib.hid (HCN.out hsn)
    have zs:=hU.qb.frozen v
    generalize hx:q.acty.getD v 0=x at *
    have hw9:wrap64 (x+1)=w64 (x+1):=by unfold wrap64 w64;rfl
    generalize w64 (x+1)=y at *
    have h1:=hU.see v
    have qb1:=h1.sb.cell 0
    simp only [zA,zB] at qb1
    have hab:q.acty.length=B:=by have:=hU.m.actyl;simp only at this;rw [this];exact HBL.out
    have q19:(wr.setCell ⟨T.bq,v,none⟩ (.bool true)).cell? ⟨g,19,none⟩=some (.slice (some ⟨U.gy,0,none⟩) B B):=by rw [←HBL.out];exact h1.m.eng.cellR (i:=10) rfl
    have qa:(wr.setCell ⟨T.bq,v,none⟩ (.bool true)).cell? ⟨U.gy,v,none⟩=some (.int .i64 x):=by
     rw [←hx]
     rw [h1.m.acty.cell,zA];exact wU (getD_at (by rw [hab];exact l1))
    have za:=h1.m.acty.frozen v
    have h2:=h1.more v (y)
    have qb2:=h2.sb.cell 0
    simp only [zA,zB] at qb2
    have q5:((wr.setCell ⟨T.bq,v,none⟩ (.bool true)).setCell ⟨U.gy,v,none⟩ (.int .i64 (y))).cell? ⟨g,5,none⟩=some (.slice (some ⟨V.gl,0,none⟩) B B):=by rw [←HBL.out];exact h2.m.eng.cellE (i:=5) rfl
    have q7:((wr.setCell ⟨T.bq,v,none⟩ (.bool true)).setCell ⟨U.gy,v,none⟩ (.int .i64 (y))).cell? ⟨g,7,none⟩=some (.slice As s.e.st.length cs):=by rw [←HST.out];exact h2.m.eng.cellE (i:=7) rfl
    have qlv:((wr.setCell ⟨T.bq,v,none⟩ (.bool true)).setCell ⟨U.gy,v,none⟩ (.int .i64 (y))).cell? ⟨V.gl,v,none⟩=some (.int .i64 (s.e.lvl.getD v 0)):=h2.m.eng.lvlAt (by show v<s.e.val.length;rw [HBL.out];exact l1)
    generalize s.e.lvl.getD v 0=lv at *
    have HU2:=Lib.hid h2
    have HQ:Hid (LpB B q∧0≤q.opn∧q.opn≤(LIM:Int)+k∧(q.seen.set v true).count true=q.seen.count true+1):=Lib.hid ⟨hq,hq0,hq1,nG (by rw [hq.sl];exact l1) hsn⟩
    obtain ⟨Ac2,cc2,hcv, -, -⟩:=hU.cr.shape
    obtain ⟨Af2,cf2,hfv, -, -⟩:=hU.fr.shape
    have qn:=h2.nb.cell 0
    have zn:=h2.nb.frozen 0
    simp only [zA,zB] at qn
    have yL:=HLN.out
    have hLm:=hlen
    unfold LIM at hLm
    clear hfo hq hdr hlit hcc hlb l0 hi HS h1 h2 hU hab HUU HCS hsn hx
    subst hcv hfv
    by_cases e1:lv=(s.e.st.length:Int)
    ·have HN:Hid (LnS κ0 w0 g U0 T κ1 (((wr.setCell ⟨T.bq,v,none⟩ (.bool true)).setCell ⟨U.gy,v,none⟩ (.int .i64 (y))).setCell ⟨T.bn,0,none⟩ (.int .i64 (q.opn+1))) s V U (collectLit s.e.lvl s.e.st.length q lit) (.slice Ac2 q.clause.length cc2) (.slice Af2 q.fixed.length cf2) hv ch∧wE s.e.lvl s.e.st.length (collectLit s.e.lvl s.e.st.length q lit) ((s.e.cl c).drop (k+1))=wE s.e.lvl s.e.st.length p (s.e.cl c)∧LpB B (collectLit s.e.lvl s.e.st.length q lit)∧0≤(collectLit s.e.lvl s.e.st.length q lit).opn∧(collectLit s.e.lvl s.e.st.length q lit).opn≤(LIM:Int)+(k+1:Nat)):=by
      refine Lib.hid ?_
      have h0:=HFO.out
      rw [HCN.out,if_pos e1] at h0 ⊢
      exact ⟨HU2.out.open_ (q.opn+1),h0,⟨by simp [HQ.out.1.sl],by have:=HQ.out.1.ct;have:=HQ.out.2.2.2;simp only;omega⟩,by have:=HQ.out.2.1;show 0≤q.opn+1;omega,by have:=HQ.out.2.2.1;show q.opn+1≤_;omega⟩
     have yo:wrap64 (q.opn+1)=q.opn+1:=by unfold wrap64;unfold LIM at hq1;omega
     have yc:decide (lv=(s.e.st.length:Int))=true:=by simpa using e1
     clear HU2 HCN HFO HQ hk hlt hq0 hq1
     go_wp2_with fail
     refine (HV.out _).mono ?_
     rintro en W2 ⟨rfl,rfl⟩
     obtain ⟨hk,hlt⟩:=HKL.out
     go_wp2_with fail
     go_roundw
     case rel=>exact ⟨k+1,κ1,_,_,_,by omega,by go_num,HN⟩
     case measure=>simp [intOf];omega
    ·have yc:decide (lv=(s.e.st.length:Int))=false:=by simpa using e1
     clear hk hlt hq0 hq1
     by_cases e2:lv=0
     ·have yd:decide (lv=0)=true:=by simpa using e2
      have q9:=HU2.out.fb.cell 0
      simp only [zA,zB] at q9
      have HM:Hid (q.fixed.length+1≤maxLen∧(q.fixed.length+1) * 8≤140737488355328):=by refine Lib.hid ?_;have:=HQ.out.1.le;unfold maxLen;omega
      clear qn zn
      go_upto_region 12 with (first|(go_at_call 64;refine (HV.out _).mono ?_;rintro en W2 ⟨rfl,rfl⟩))
      clear qs zs qb qb1 q19 qa za qb2 q5 q7 qlv qe ql hw9
      generalize (wr.setCell ⟨T.bq,v,none⟩ (.bool true)).setCell ⟨U.gy,v,none⟩ (.int .i64 (y))=W2 at *
      go_wp2_with (at_builtin;refine zW _ rfl _ _ 33 rfl 0 3 iI (.int .i64 0) 1 8 Try.underlying33 hiI hzI0 hzI1 hzI2 rfl (by decide) _ _ _ rfl (HU2.out.fr.o.alloc _) ⟨W2.heap.size,0,none⟩ 1 1 [.int .i64 lit] rfl rfl (wR W2 _ _) ?a2 HM.out.1 HM.out.2 (zQ _) ?_)
      case a2=>(intro u hu;simp at hu;subst hu;rfl)
      intro v' w5 hown hgrow _ hat
      obtain ⟨A5,c5,hv5, -, -⟩:=wB hown
      subst hv5
      obtain ⟨κ3,hU3,z9,y9⟩:=HU2.out.pushF hown hgrow (by simpa using hat)
      have HN:Hid (LnS κ0 w0 g U0 T κ3 (w5.setCell ⟨T.bf,0,none⟩ (.slice A5 (q.fixed.length+1) c5)) s V U (collectLit s.e.lvl s.e.st.length q lit) (.slice Ac2 q.clause.length cc2) (.slice A5 (q.fixed.length+1) c5) hv ch∧wE s.e.lvl s.e.st.length (collectLit s.e.lvl s.e.st.length q lit) ((s.e.cl c).drop (k+1))=wE s.e.lvl s.e.st.length p (s.e.cl c)∧LpB B (collectLit s.e.lvl s.e.st.length q lit)∧0≤(collectLit s.e.lvl s.e.st.length q lit).opn∧(collectLit s.e.lvl s.e.st.length q lit).opn≤(LIM:Int)+(k+1:Nat)):=by
       refine Lib.hid ?_
       have h0:=HFO.out
       rw [HCN.out,if_neg e1,if_pos e2] at h0 ⊢
       exact ⟨hU3,h0,⟨by simp [HQ.out.1.sl],by have:=HQ.out.1.ct;have:=HQ.out.2.2.2;simp only [zJ,qJ,xA];omega⟩,HQ.out.2.1,by have:=HQ.out.2.2.1;show q.opn≤_;omega⟩
      obtain ⟨hk,hlt⟩:=HKL.out
      clear hown hgrow hat hU3 HU2 HCN HFO q9
      go_wp2_with fail
      go_roundw
      case rel=>exact ⟨k+1,κ3,collectLit s.e.lvl s.e.st.length q lit,_,_,by omega,by go_num,HN⟩
      case measure=>simp [intOf];omega
     ·have yd:decide (lv=0)=false:=by simpa using e2
      have q9:=HU2.out.cb.cell 0
      simp only [zA,zB] at q9
      have HM:Hid (q.clause.length+1≤maxLen∧(q.clause.length+1) * 8≤140737488355328):=by refine Lib.hid ?_;have:=HQ.out.1.le;unfold maxLen;omega
      clear qn zn
      go_upto_region 8 with (first|(go_at_call 64;refine (HV.out _).mono ?_;rintro en W2 ⟨rfl,rfl⟩))
      clear qs zs qb qb1 q19 qa za qb2 q5 q7 qlv qe ql hw9
      generalize (wr.setCell ⟨T.bq,v,none⟩ (.bool true)).setCell ⟨U.gy,v,none⟩ (.int .i64 (y))=W2 at *
      go_wp2_with (at_builtin;refine zW _ rfl _ _ 33 rfl 0 3 iI (.int .i64 0) 1 8 Try.underlying33 hiI hzI0 hzI1 hzI2 rfl (by decide) _ _ _ rfl (HU2.out.cr.o.alloc _) ⟨W2.heap.size,0,none⟩ 1 1 [.int .i64 lit] rfl rfl (wR W2 _ _) ?a3 HM.out.1 HM.out.2 (zQ _) ?_)
      case a3=>(intro u hu;simp at hu;subst hu;rfl)
      intro v' w5 hown hgrow _ hat
      obtain ⟨A5,c5,hv5, -, -⟩:=wB hown
      subst hv5
      obtain ⟨κ3,hU3,z9,y9⟩:=HU2.out.pushC hown hgrow (by simpa using hat)
      have HN:Hid (LnS κ0 w0 g U0 T κ3 (w5.setCell ⟨T.bc,0,none⟩ (.slice A5 (q.clause.length+1) c5)) s V U (collectLit s.e.lvl s.e.st.length q lit) (.slice A5 (q.clause.length+1) c5) (.slice Af2 q.fixed.length cf2) hv ch∧wE s.e.lvl s.e.st.length (collectLit s.e.lvl s.e.st.length q lit) ((s.e.cl c).drop (k+1))=wE s.e.lvl s.e.st.length p (s.e.cl c)∧LpB B (collectLit s.e.lvl s.e.st.length q lit)∧0≤(collectLit s.e.lvl s.e.st.length q lit).opn∧(collectLit s.e.lvl s.e.st.length q lit).opn≤(LIM:Int)+(k+1:Nat)):=by
       refine Lib.hid ?_
       have h0:=HFO.out
       rw [HCN.out,if_neg e1,if_neg e2] at h0 ⊢
       exact ⟨hU3,h0,⟨by simp [HQ.out.1.sl],by have:=HQ.out.1.ct;have:=HQ.out.2.2.2;simp only [zJ,qJ,xA];omega⟩,HQ.out.2.1,by have:=HQ.out.2.2.1;show q.opn≤_;omega⟩
      obtain ⟨hk,hlt⟩:=HKL.out
      clear hown hgrow hat hU3 HU2 HCN HFO q9
      go_wp2_with fail
      go_roundw
      case rel=>exact ⟨k+1,κ3,collectLit s.e.lvl s.e.st.length q lit,_,_,by omega,by go_num,HN⟩
      case measure=>simp [intOf];omega
  ·have hkl:k=L:=by omega
   have yk:¬((k:Int)<(L:Int)):=by omega
   obtain ⟨hU,hfo, -⟩:=HS.out
   rw [qY (by have:=HLN.out;omega)] at hfo
   have HFIN:Hid (sJ κ0 w0 g U0 T s V U (wE s.e.lvl s.e.st.length p (s.e.cl c)) hv ch (.returned (.tuple #[])) wr):=Lib.hid ⟨rfl,κ1,cv1,fv1,by rw [←hfo];exact hU⟩
   clear hU hfo HS hkl hk hlt
   go_wp2_with fail
   go_end0
   exact HFIN.out
end
def Kept (s s2:Sol):Prop:=∃cls org unt,s2={ s with e:={ s.e with cls:=cls },org:=org,unt:=unt }
theorem Kept.refl (s:Sol):Kept s s:=⟨s.e.cls,s.org,s.unt,rfl⟩
theorem Kept.trans {s s2 s3:Sol} (h:Kept s s2) (k:Kept s2 s3):Kept s s3:=by
 obtain ⟨a,b,c,rfl⟩:=h
 obtain ⟨a2,b2,c2,rfl⟩:=k
 exact ⟨a2,b2,c2,rfl⟩
theorem addF_kept {s s2:Sol} {cl:List Int} {o:Org} (h:s.addF cl o=some s2):Kept s s2:=by
 unfold Sol.addF at h
 split at h
 ·injection h with h;rw [←h];exact ⟨_,_,s.unt,rfl⟩
 ·cases h
theorem oE {n v:Nat} (ih:∀(s:Sol) (v:Nat) (s2:Sol) (c:Nat),dA n s v=some (s2,c)→Kept s s2):∀(l:List Int) (p q:Sol × List Int × List (Nat × Int)),l.foldlM (uniStep n v) p=some q→Kept p.1 q.1:=by
 intro l
 induction l with
 | nil=>intro p q h;injection h with h;rw [h];exact .refl _
 | cons x r ihl =>
  intro p q h
  rw [qW] at h
  cases hs:uniStep n v p x with
  | none=>rw [hs] at h;cases h
  | some p2 =>
   rw [hs] at h
   refine Kept.trans ?_ (ihl p2 q h)
   unfold uniStep at hs
   split at hs
   ·split at hs
    ·injection hs with hs;rw [←hs];exact .refl _
    ·cases hu:dA n p.1 (vr x) with
     | none=>rw [hu] at hs;cases hs
     | some q2=>rw [hu] at hs;injection hs with hs;rw [←hs];exact ih _ _ _ _ hu
   ·cases hs
theorem iR:∀(n:Nat) (s:Sol) (v:Nat) (s2:Sol) (c:Nat),dA n s v=some (s2,c)→Kept s s2:=by
 intro n
 induction n with
 | zero=>intro s v s2 c h;cases h
 | succ n ih =>
  intro s v s2 c h
  obtain ⟨-, -,h1|⟨-,r, -, -, -,h1|⟨-,s1,own,ch,s3,hf,ha,rfl, -⟩⟩⟩:=bS h
  ·rw [h1.2.1];exact .refl _
  ·rw [h1.2.1];exact ⟨_,_,_,rfl⟩
  ·exact ((oE ih _ _ _ hf).trans (addF_kept ha)).trans ⟨_,_,_,rfl⟩
theorem lA {B:Nat} {lvl:List Int} {cur:Nat} {q:Lrn} {lit:Int} (h:LpB B q) (hl:vr lit<B):LpB B (collectLit lvl cur q lit):=by
 cases hs:q.seen.getD (vr lit) false with
 | true=>rw [dU hs];exact h
 | false =>
  have hc:=nG (by rw [h.sl];exact hl) hs
  have h2:=h.ct
  rw [bH hs]
  split
  ·exact ⟨by simp [h.sl],by simp only;omega⟩
  ·split
   ·exact ⟨by simp [h.sl],by simp only [zJ,qJ,xA];omega⟩
   ·exact ⟨by simp [h.sl],by simp only [zJ,qJ,xA];omega⟩
theorem eE {B:Nat} {lvl:List Int} {cur:Nat}:∀(cl:List Int) (q:Lrn),LpB B q→(∀x∈cl,litB B x=true)→LpB B (wE lvl cur q cl):=by
 intro cl
 induction cl with
 | nil=>intro q h _;exact h
 | cons x r ih =>
  intro q h hl
  exact ih _ (lA h (wN (hl x (by simp))).2) fun y hy=>hl y (by simp [hy])
theorem lpb_new (B:Nat) (acty:List Int):LpB B ⟨acty,List.replicate B false,[],[],0⟩:=⟨by simp,zQ _⟩
theorem eU {n:Nat} {f:Form} {s s2:Sol} {conf:Nat} (h:learnF n f s conf=some s2):conf<s.e.cls.length∧(s.e.cl conf).all (litB s.e.val.length)=true∧(s.e.cl conf).length<LIM ∧
  ∃k p ch s1 ch2,dK s.e s.e.tr.length (wE s.e.lvl s.e.st.length ⟨s.acty,List.replicate s.e.val.length false,[],[],0⟩ (s.e.cl conf)) []=some (k,p,ch)∧p.fixed.foldlM (unsStep n) ({ s with acty:=p.acty },ch)=some (s1,ch2) ∧
   installF f s1 (-(s.e.tr.getD k 0)::p.clause) ⟨wF,conf,ch2⟩=some s2:=by
 unfold learnF at h
 split at h
 ·rename_i hc
  refine ⟨hc.1,hc.2.1,hc.2.2.1,?_⟩
  split at h
  ·cases h
  ·rename_i k p ch hs
   split at h
   ·cases h
   ·rename_i s1 ch2 hu
    exact ⟨k,p,ch,s1,ch2,hs,hu,h⟩
 ·cases h
theorem dR {e:Eng} {k:Nat} {p:Lrn} {ch:List (Nat × Int)} {r:Nat × Lrn × List (Nat × Int)} (h:dK e k p ch=some r):∃j,k=j+1∧litB e.val.length (e.tr.getD j 0)=true ∧
  ((p.seen.getD (vr (e.tr.getD j 0)) false=false∧dK e j p ch=some r)∨(p.seen.getD (vr (e.tr.getD j 0)) false=true∧((p.opn=1∧r=(j,p,ch))∨(p.opn≠1∧∃q:Nat,e.rsn.getD (vr (e.tr.getD j 0)) 0=q∧q<e.cls.length∧(e.cl q).all (litB e.val.length)=true∧ch.length<LIM∧1<p.opn∧p.opn<LIM∧(e.cl q).length<LIM ∧
   dK e j (wE e.lvl e.st.length { p with opn:=p.opn-1 } (e.cl q)) (ch++[(q,e.tr.getD j 0)])=some r)))):=by
 cases k with
 | zero=>cases h
 | succ j =>
  rw [dK] at h
  refine ⟨j,rfl,?_⟩
  simp only at h
  split at h
  ·rename_i hl
   refine ⟨hl,?_⟩
   split at h
   ·rename_i hs
    refine .inr ⟨hs,?_⟩
    split at h
    ·rename_i ho
     injection h with h
     exact .inl ⟨ho,h.symm⟩
    ·rename_i ho
     split at h
     ·rename_i hc
      obtain ⟨c1,c2,c3,c4,c5,c6,c7⟩:=hc
      exact .inr ⟨ho,(e.rsn.getD (vr (e.tr.getD j 0)) 0).toNat,by omega,by omega,c3,c4,c5,c6,c7,h⟩
     ·cases h
   ·rename_i hs
    exact .inl ⟨by simpa using hs,h⟩
  ·cases h
section
variable {κ0 κ:Kap} {w0 w:World} {g:Nat} {s:Sol} {V:EV} {U:SV} {L:List (Nat × Nat × TypeId × Array Value)}
structure LH (κ0:Kap) (w0:World) (g:Nat) (s:Sol) (V:EV) (U:SV) (κ:Kap) (w:World) (L:List (Nat × Nat × TypeId × Array Value)):Prop where
 m:SolM κ w g s V U
 f:Fr κ0 κ w0 w aO
 b:∀q∈L,HB κ w (.tmp q.1) q.2.1 q.2.2.1 q.2.2.2∧w0.heap.size≤q.2.1
theorem LH.make (h:LH κ0 w0 g s V U κ w L) (i:Nat) (t:TypeId) (cs:Array Value):LH κ0 w0 g s V U (kset κ w.heap.size (.tmp i)) (w.alloc (.cells cs t)) ((i,w.heap.size,t,cs)::L):=by
 have f:=Fr.make κ w (.cells cs t) (.tmp i) (fun _=>False)
 refine ⟨h.m.fr f fun _ _=>id,h.f.trans (f.mono fun _=>False.elim),fun q hq => ?_⟩
 rcases zV.1 hq with rfl|hq
 ·exact ⟨HB.new κ w (.tmp i) cs t,h.f.size⟩
 ·exact ⟨(h.b q hq).1.fr f id,(h.b q hq).2⟩
end
theorem lrnC_sol {c:Col} (h:aO c):wO c:=by cases c<;>first|trivial|exact h
theorem iB {P:Program} {ops:Array Oper} {o:Oper} {a:Act} {w:World} {K:Act→World→Prop} {Q:Exit→Act→World→Prop} {E:Prop} (hgd:o.guard=none) (s x:Operand) (t:TypeId)
  (ho:o.op = .call { callee := .builtin .append,args := #[s,x],argTypes := #[t,t] })
  (e:TypeId) (i:TypeInfo) (z:Value) (size bytes:Nat) (ht:P.underlying t=some (.slice e)) (hi:P.info? e=some i) (hz:i.zero=some z)
  (hsize:i.size=size) (hby:i.bytes=bytes) (hzs:z.cells.size=size) (hsz:0<size)
  (b n cap:Nat) (xs:List Value) (hs:a.eval s = .slice (some ⟨b,0,none⟩) n cap) (hown:w.ownsRow 0 e size (.slice (some ⟨b,0,none⟩) n cap) n xs)
  (v2:Value) (m:Nat) (news:List Value) (hx:a.eval x=v2) (hown2:w.ownsRow 0 e size v2 m news) (h1:∀u∈news,u.oneCell'=true)
  (h63:n+m≤maxLen) (hbytes:(n+m) * bytes≤140737488355328)
  (h:∀v' w',w'.ownsRow 0 e size v' (n+m) (xs++news)→w.grownBy w' (some b)→(v'.ownBlock=some b∨v'.ownBlock=some w.heap.size)→K (a.put o.dst v') w') :
  if Region.wanted o (yielded ops a.tmps)=true then Oper.wp P o a w K Q else E:=by
 rcases hown2.2 with ⟨hn,hm⟩|⟨g2,cap2,cur2,hv2,hg2,hgg2,hnc,hmx,hs2,ht2⟩
 ·subst hn
  have hl:=hown2.1
  rw [hm,uP] at hl
  have hnil:news=[]:=qU hl
  subst hnil
  subst hm
  have hcap:n≤cap:=by
   obtain ⟨A,c,e1,e2, -⟩:=wB hown
   cases e1
   exact e2
  have hw:Region.wanted o (yielded ops a.tmps)=true:=by simp [Region.wanted,hgd]
  rw [if_pos hw]
  have hr:=run_append_room_src (P:=P) w t t o.type e i ht hi b 0 n cap (.slice none 0 0) 0 [] (Src.ofNil w ht 0) (by omega) (fun j hj=>by cases hj) (fun j hj=>by cases hj)
  have hset:w.setCells b (0+n * i.size) []=w:=rfl
  rw [hset] at hr
  unfold Oper.wp execOp
  simp only [ho,resolve,invoke,builtin,vN,vO,xY,kW,qC,xU,hs,hx,hr]
  exact h _ w (by rw [yV];exact hown) ⟨rfl,rfl,rfl,Nat.le_refl _,fun _ _ _=>rfl⟩ (.inl rfl)
 ·obtain ⟨-, -, -, -,h5⟩:=aG (hv2 ▸ hown2)
  exact jZ hgd s x t ho 0 e i z size bytes ht hi hz hsize hby hzs hsz _ n xs hs hown ⟨g2,0,none⟩ m cap2 news (hx.trans hv2) hown2.1 (fun j u hu=>by rw [jO];exact h5 j u hu) h1 h63 hbytes (zQ _) h
section
variable {κ0 κ:Kap} {w0 w:World} {g:Nat} {U0 U:SV} {T:LT} {s:Sol} {V:EV} {p:Lrn} {cv fv hv:Value} {ch:List (Nat × Int)}
theorem LnS.put (h:LnS κ0 w0 g U0 T κ w s V U p cv fv hv ch):LnS κ0 w0 g U0 T κ w { s with acty:=p.acty } V U p cv fv hv ch :=
 ⟨h.m,h.f,h.sm,h.sb,h.ob,h.eb,h.qb,h.cb,h.fb,h.nb,h.cr,h.fr,h.hr,h.n,h.nc,h.nf,h.nh⟩
theorem LnS.sol (h:LnS κ0 w0 g U0 T κ w s V U p cv fv hv ch) (ha:s.acty=p.acty):SolM κ w g s V U:=by
 have:=h.m
 rw [←ha] at this
 exact this
theorem one_row (w:World) (x:Int):(w.alloc (.cells #[.int .i64 x] 3)).drew.ownsRow 0 3 1 (.slice (some ⟨w.heap.size,0,none⟩) 1 1) 1 [.int .i64 x] :=
 ⟨rfl, .inr ⟨w.heap.size,1, #[.int .i64 x],rfl,zQ _,Blk.new w _ _,Nat.le_refl _,by unfold maxLen;omega,rfl,rfl⟩⟩
theorem LnS.last (h:LnS κ0 w0 g U0 T κ w s V U p cv fv hv ch) {x:Int} {v':Value} {w2:World} {k:Nat} (hk:k=p.clause.length+1) (ho:w2.ownsRow 0 3 1 v' k (ci (x::p.clause)))
  (hg:(w.alloc (.cells #[.int .i64 x] 3)).grownBy w2 (some w.heap.size)) (hat:v'.ownBlock=some w.heap.size∨v'.ownBlock=some (w.alloc (.cells #[.int .i64 x] 3)).heap.size) :
  ∃κ',SolM κ' w2 g { s with acty:=p.acty } V U∧Fr κ0 κ' w0 w2 aO∧Hold κ' w2 (.cl s.e.cls.length) 3 1 v' (x::p.clause).length (ci (x::p.clause))∧Hold κ' w2 (.och s.org.length) 115 2 hv ch.length (aC ch) ∧
   HB κ' w2 (.tmp 0) T.bs 77 #[.pointer (some ⟨g,0,none⟩)]∧HB κ' w2 (.tmp 1) T.bo 94 (orgA T.conf hv)∧HB κ' w2 (.tmp 4) T.bc 33 #[cv]:=by
 have key:∃κ2,Fr κ κ2 w w2 (fun c=>c = .cl s.e.cls.length)∧∀j,v'.ownBlock=some j→κ2 j=some (.cl s.e.cls.length):=by
  have f1:=Fr.make κ w (.cells #[.int .i64 x] 3) (.cl s.e.cls.length) (fun c=>c = .cl s.e.cls.length)
  have hb:=HB.new κ w (.cl s.e.cls.length) #[.int .i64 x] 3
  have f2:=Fr.grown (S:=fun c=>c = .cl s.e.cls.length) _ hg hb.k rfl
  rcases hat with e|e
  ·exact ⟨_,f1.trans f2,fun j hj=>by rw [e] at hj;injection hj with hj;subst hj;exact hb.k⟩
  ·exact ⟨_,f1.trans (f2.paint (Nat.le_refl _) (.cl s.e.cls.length)),fun j hj=>by rw [e] at hj;injection hj with hj;subst hj;unfold kset;exact if_pos rfl⟩
 obtain ⟨κ2,f,hown⟩:=key
 have hm:=h.m.frCl (Nat.le_refl _) f
 have hh:=h.hr.fr f (by simp)
 obtain ⟨κ3,a1,a2,a3⟩:=hh.repaint (.och s.org.length)
 have keep3:∀c,c ≠ .tmp 9→∀j,κ2 j=some c→κ3 j=some c:=fun c n2 j hj=>by
  rw [a2 j (by rw [hj];simpa using n2)];exact hj
 refine ⟨κ3,hm.rc (κ':=κ3) fun c hc=>keep3 c (fun e=>by subst e;exact hc),?_,⟨?_,fun j hj=>keep3 _ (by simp) j (hown j hj)⟩,a1,(h.sb.fr f (by simp)).rc (keep3 _ (by simp)),(h.ob.fr f (by simp)).rc (keep3 _ (by simp)),(h.cb.fr f (by simp)).rc (keep3 _ (by simp))⟩
 ·have hF0:Fr κ0 κ w0 w2 aO:=(h.f.trans (Fr.alloc κ w _ aO)).loc hg (fun j e=>by injection e with e;subst e;exact h.f.size)
  exact hF0.recol fun j hj=>(a3 j (fun e=>by have:=h.nh j e;omega)).trans (f.ext j (zZ hj h.f.size))
 ·rw [qJ,←hk];exact ho
end
end Go.Proofs.Yticieifacalocaa
