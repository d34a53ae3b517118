/- TrimPL LawSTr -/
import Derived.Test.YticieifacalocaaTSC52
import Derived.Test.YticieifacalocaaTSC50
namespace Go.Proofs.Yticieifacalocaa
open Go.RowKit
theorem mk_intsL (n:Nat) (h:n≤1099511627776) (w:World):(Instr.makeSlice 33 (.int .i64 (n:Int)) (.int .i64 (n:Int))).run Try.prog w = .ok (.slice (some ⟨w.heap.size,0,none⟩) n n) (w.alloc (.cells (rowI (List.replicate n 0)) 3)):=by
 obtain ⟨i,hi,h0,h1,h2⟩:=qC gP
 rw [dP _ _ i _ Try.underlying33 hi h0 n (by rw [h2];omega) (by omega) w,h1,dZ _ (.int .i64 0) _ (by decide) zero_i,yC]
 simp [rowI]
theorem mk_boolsL (n:Nat) (h:n≤1099511627776) (w:World):(Instr.makeSlice 32 (.int .i64 (n:Int)) (.int .i64 (n:Int))).run Try.prog w = .ok (.slice (some ⟨w.heap.size,0,none⟩) n n) (w.alloc (.cells (lH (List.replicate n false)) 4)):=by
 obtain ⟨i,hi,h0,h1,h2⟩:=qC lA
 rw [dP _ _ i _ Try.underlying32 hi h0 n (by rw [h2];omega) (by omega) w,h1,dZ _ (.bool false) _ (by decide) zero_b,yC]
 simp [lH]
set_option maxRecDepth 100000 in
set_option maxHeartbeats 4000000 in
theorem trimL_any (fv lv:Value) (f:Form) (l:List Stp) (w:World) (hf:IsForm w fv f) (hl:Stps w lv l) (hq:eH f l) :
  Calls Try.prog 30 #[fv,lv] w (TrimRet w f l):=by
 have HF:=Lib.hid hf
 have HQ:=Lib.hid hq
 have HL:=Lib.hid hl
 obtain ⟨av,cv,rfl, -, -,hf3,hf4⟩:=hf
 obtain ⟨Aa,ca,rfl, -, -, -, -⟩:=hf3
 obtain ⟨Ac,cc,vs,rfl, -, -, -, -, -⟩:=hf4
 obtain ⟨A,c,ps,hps,rfl,l1,l2,l3,l4⟩:=hl
 have hpl:ps.length=l.length:=by rw [hps];simp
 have HPS:=Lib.hid hps
 have HPL:=Lib.hid hpl
 have HR:=Lib.hid l3
 have H4:=Lib.hid l4
 unfold maxLen at l2
 have hpn:ps.length≤1099511627776:=by have:=hq.2.2.1;omega
 have HB0:Hid (Below w.heap.size w (w.alloc (.cells #[.int .i64 f.ints, .int .i64 f.bools, .slice Aa f.atoms.length ca, .slice Ac f.clauses.length cc] 29))):=(zM _ _).alloc (Nat.le_refl _) _
 clear hq hps hpl l3 l4
 go_enter Try.func30,Try.ntmps30
 go_wp2_with fail
 generalize w.alloc (.cells #[.int .i64 f.ints, .int .i64 f.bools, .slice Aa f.atoms.length ca, .slice Ac f.clauses.length cc] 29)=W at *
 refine (lT _ _ f l _ (HF.out.keep HB0.out) (HL.out.keep HB0.out) HQ.out).mono ?_
 rintro e w1 ⟨rfl,hb1⟩
 have HB1:=Lib.hid (HB0.out.trans (hb1.mono HB0.out.size))
 clear hb1
 by_cases hrf:Refutes f l
 ·have HRF:=Lib.hid hrf
  rw [hrf.chk]
  obtain ⟨cs,hg,h0,hlast⟩:=hrf
  have HBK:=Lib.hid hg.back
  have HKD:=Lib.hid hg.kinds
  have hp0:0<ps.length:=by have:=HPL.out;omega
  have mkb:=mk_boolsL ps.length (by omega)
  clear hg hlast h0
  go_upto_region 5 with fail
  have HN0:Hid (TN w1 (w1.alloc (.cells (lH (List.replicate ps.length false)) 4)) w1.heap.size (List.replicate ps.length false)):=⟨Blk.new _ _ _,Nat.le_refl _,(zM _ _).alloc (Nat.le_refl _) _⟩
  generalize w1.alloc (.cells (lH (List.replicate ps.length false)) 4)=W1 at *
  obtain ⟨gn,hgn⟩:∃gn,gn=w1.heap.size:=⟨_,rfl⟩
  rw [←hgn] at HN0 ⊢
  have c1:=HN0.out.n.cell (ps.length-1)
  rw [fU (x:=false) (by rw [List.getElem?_replicate,if_pos (by omega)])] at c1
  have z1:=HN0.out.n.frozen (ps.length-1)
  have HN1:=Lib.hid (HN0.out.set_ (ps.length-1) true)
  have HE0:Hid ((List.replicate ps.length false).set (ps.length-1) true=gG l 0):=Lib.hid (by rw [gG,HPL.out])
  rw [HE0.out] at HN1
  clear hgn mkb
  go_upto_region 6 with fail
  generalize W1.setCell ⟨gn,ps.length-1,none⟩ (.bool true)=W2 at *
  clear c1 z1 HN0 HE0
  go_wp2_with fail
  go_loopw [9] (fun i wr=>∃j:Nat,j≤ps.length∧i = .int .i64 ((ps.length:Int)-1-j)∧TN w1 wr gn (gG l j)) (fun i _=>(intOf i+1).toNat)
  case atStart=>exact ⟨0,by omega,by simp,HN1.out⟩
  case round =>
   obtain ⟨j,hj,rfl,htn⟩:=hrel
   have HT:=Lib.hid htn
   clear htn HN1
   by_cases hjl:j<ps.length
   ·obtain ⟨k,hk⟩:∃k:Nat,ps.length=k+1+j:=⟨ps.length-1-j,by omega⟩
    have hkl:k<ps.length:=by omega
    have hki:(ps.length:Int)-1-(j:Int)=(k:Int):=by omega
    obtain ⟨⟨s,sv⟩,hp⟩:∃p,ps[k]? = some p:=⟨_,List.getElem?_eq_getElem hkl⟩
    have HSG:Hid (l.getD k s0=s):=Lib.hid (by rw [HPS.out,List.getD_eq_getElem?_getD,List.getElem?_map,hp];rfl)
    obtain ⟨b1,o1,rfl,hb1,t0,t1,t2,t3,t4,t5⟩:=Stps.at_ ((HR.out.keep HB1.out).keep HT.out.bl) hp
    simp only at t0 t1 t2 t3 t4 t5
    obtain ⟨nv,hnv⟩:∃nv,(gG l j)[k]? = some nv:=⟨_,List.getElem?_eq_getElem (by rw [ndFrom_len];have:=HPL.out;omega)⟩
    have c1:=HT.out.n.cell k
    rw [fU hnv] at c1
    have HNV:Hid ((gG l j).getD k false=nv):=Lib.hid (by rw [List.getD_eq_getElem?_getD,hnv];rfl)
    have HKE:Hid (l.length-1-j=k):=Lib.hid (by have:=HPL.out;omega)
    rw [hki]
    have HKI:=Lib.hid hki
    have HPK:=Lib.hid hp
    clear hp hnv hk hki
    cases nv with
    | false =>
     have HN2:Hid (gG l (j+1)=gG l j):=Lib.hid (by rw [gG,HKE.out,ndStep,if_neg];rw [HNV.out];simp)
     go_wp2_with fail
     go_roundw
     case rel=>exact ⟨j+1,by omega,by have:=HKI.out;exact ret_i (by omega),by rw [HN2.out];exact HT.out⟩
     case measure=>simp [intOf]
    | true =>
     by_cases h3:s.kind=3
     ·have hbk:=HBK.out k (by have:=HPL.out;omega) (by rw [HSG.out];exact h3)
      rw [HSG.out] at hbk
      obtain ⟨p0,p1,q0,q1⟩:=hbk
      obtain ⟨X,hX⟩:∃X:Nat,s.p=X:=⟨s.p.toNat,by omega⟩
      obtain ⟨Y,hY⟩:∃Y:Nat,s.q=Y:=⟨s.q.toNat,by omega⟩
      have X1:X<ps.length:=by omega
      have Y1:Y<ps.length:=by omega
      rw [hX] at t3
      rw [hY] at t4
      rw [h3] at t0
      have HN2:Hid (gG l (j+1)=((gG l j).set X true).set Y true):=Lib.hid (by rw [gG,HKE.out,ndStep,if_pos ⟨HNV.out,by rw [HSG.out];exact h3⟩,HSG.out,hX,hY];rfl)
      have HT2:=Lib.hid (HT.out.set_ X true)
      have HT3:=Lib.hid (HT2.out.set_ Y true)
      obtain ⟨xv,hxv⟩:∃xv,(gG l j)[X]? = some xv:=⟨_,List.getElem?_eq_getElem (by rw [ndFrom_len];have:=HPL.out;omega)⟩
      have c2:=HT.out.n.cell X
      rw [fU hxv] at c2
      have z2:=HT.out.n.frozen X
      obtain ⟨yv,hyv⟩:∃yv,((gG l j).set X true)[Y]? = some yv:=⟨_,List.getElem?_eq_getElem (by rw [qF,ndFrom_len];have:=HPL.out;omega)⟩
      have c3:=HT2.out.n.cell Y
      rw [fU hyv] at c3
      have z3:=HT2.out.n.frozen Y
      have HY:=Lib.hid hY
      clear p0 p1 q0 q1 hX hY h3 hxv hyv
      go_upto_region 11 with fail
      generalize wr.setCell ⟨gn,X,none⟩ (.bool true)=W3 at *
      clear t0 t1 t2 t3 t4 t5 c1 c2 z2
      obtain ⟨b2,o2,e2,hb2, -, -, -, -,t4, -⟩:=Stps.at_ ((HR.out.keep HB1.out).keep HT2.out.bl) HPK.out
      injection e2 with e2
      injection e2 with e2 e3 _
      subst e2 e3
      simp only at t4
      rw [HY.out] at t4
      go_wp2_with fail
      go_roundw
      case rel=>exact ⟨j+1,by omega,by have:=HKI.out;exact ret_i (by omega),by rw [HN2.out];exact HT3.out⟩
      case measure=>simp [intOf]
     ·have HN2:Hid (gG l (j+1)=gG l j):=Lib.hid (by rw [gG,HKE.out,ndStep,if_neg];rw [HSG.out];exact fun h=>h3 h.2)
      have d3:(s.kind == 3)=false:=by simp [h3]
      clear h3
      go_wp2_with fail
      go_roundw
      case rel=>exact ⟨j+1,by omega,by have:=HKI.out;exact ret_i (by omega),by rw [HN2.out];exact HT.out⟩
      case measure=>simp [intOf]
   ·have HND:Hid (TN w1 wr gn (nd l)):=Lib.hid (by
     have h:=HT.out
     rw [show j=l.length by have:=HPL.out;omega] at h
     exact h)
    have hjn:(ps.length:Int)-1-(j:Int) = -1:=by omega
    rw [hjn]
    have mk:=mk_intsL ps.length (by omega)
    have HTR:Hid (TR w1 (wr.alloc (.cells (rowI (List.replicate ps.length 0)) 3)) gn wr.heap.size (nd l) (List.replicate ps.length 0) (.slice none 0 0) []):=Lib.hid ⟨HND.out.n.alloc _,Blk.new _ _ _,OwnStps.nil _ _ _,HND.out.lo,HND.out.n.lt,by simp,HND.out.bl.alloc HND.out.bl.size _⟩
    clear hjn
    go_upto_region 13 with fail
    generalize wr.alloc (.cells (rowI (List.replicate ps.length 0)) 3)=W3 at *
    obtain ⟨gp,hgp⟩:∃gp,gp=wr.heap.size:=⟨_,rfl⟩
    rw [←hgp] at HTR ⊢
    clear mk hgp
    obtain ⟨iT,hiT,hzT0,hzT1,hzT2⟩:=qC info_step
    go_wp2_with fail
    go_loopw [11,68] (fun o i wr=>∃(k:Nat) (qs:List (Stp × Value)),k≤ps.length∧i = .int .i64 k∧qs.map (·.1)=(dE l (nd l) k).2∧TR w1 wr gn gp (nd l) (dE l (nd l) k).1 o qs) (fun _ i _=>ps.length-(intOf i).toNat)
    case atStart=>exact ⟨0,[],by omega,rfl,rfl,by rw [dE,←HPL.out];exact HTR.out⟩
    case round =>
     obtain ⟨k,qs,hk,rfl,hqs,htr⟩:=hrel
     have HQS:=Lib.hid hqs
     have HT2:=Lib.hid htr
     obtain ⟨Ao,co,eo, -, -, -⟩:=wQ htr.os.1
     subst eo
     have hql:qs.length≤k:=by have h1:=congrArg List.length hqs;have h2:=(mX l (nd l) k).1;simp at h1;omega
     clear hqs htr HTR
     by_cases hkl:k<ps.length
     ·obtain ⟨⟨s,sv⟩,hp⟩:∃p,ps[k]? = some p:=⟨_,List.getElem?_eq_getElem hkl⟩
      have HSG:Hid (l.getD k s0=s):=Lib.hid (by rw [HPS.out,List.getD_eq_getElem?_getD,List.getElem?_map,hp];rfl)
      obtain ⟨b1,o1,rfl,hb1,t0,t1,t2,t3,t4,t5⟩:=Stps.at_ ((HR.out.keep HB1.out).keep HT2.out.bl) hp
      have HP4:=Lib.hid (H4.out (s,sv) (List.mem_of_getElem? hp))
      obtain ⟨As,cs',hsv, -, -, -, -⟩:=HP4.out.1
      simp only at t0 t1 t2 t3 t4 t5 hsv
      subst hsv
      obtain ⟨nv,hnv⟩:∃nv,(nd l)[k]? = some nv:=⟨_,List.getElem?_eq_getElem (by unfold nd;rw [ndFrom_len];have:=HPL.out;omega)⟩
      have HNV:Hid ((nd l).getD k false=nv):=Lib.hid (by rw [List.getD_eq_getElem?_getD,hnv];rfl)
      have hb3:Below wr.heap.size wr (wr.alloc (.cells #[.int .i64 s.kind, .int .i64 s.index, .slice As s.lits.length cs', .int .i64 s.p, .int .i64 s.q, .int .i64 s.var] 91)):=(zM _ _).alloc (Nat.le_refl _) _
      have HT3:=Lib.hid (HT2.out.keep hb3)
      have HBX:=Lib.hid (Blk.new wr 91 #[.int .i64 s.kind, .int .i64 s.index, .slice As s.lits.length cs', .int .i64 s.p, .int .i64 s.q, .int .i64 s.var])
      have HNW:=Lib.hid hnv
      clear hp hnv hb3
      go_upto_region 17 with fail
      generalize wr.alloc (.cells #[.int .i64 s.kind, .int .i64 s.index, .slice As s.lits.length cs', .int .i64 s.p, .int .i64 s.q, .int .i64 s.var] 91)=W4 at *
      clear t0 t1 t2 t3 t4 t5
      have c1:=HT3.out.n.cell k
      rw [fU HNW.out] at c1
      cases nv with
      | false =>
       have HE:Hid (dE l (nd l) (k+1)=dE l (nd l) k):=Lib.hid (by rw [dE,if_neg (by rw [HNV.out];simp)])
       go_wp2_with fail
       go_roundw
       case rel=>exact ⟨k+1,qs,by omega,by go_num,by rw [HE.out];exact HQS.out,by rw [HE.out];exact HT3.out⟩
       case measure=>simp [intOf];omega
      | true =>
       have HE:Hid (dE l (nd l) (k+1)=((dE l (nd l) k).1.set k (qs.length:Int),(dE l (nd l) k).2++[bareS s ((dE l (nd l) k).1.set k (qs.length:Int))])):=Lib.hid (by
        have h1:=congrArg List.length HQS.out
        rw [dE,if_pos HNV.out,HSG.out,←h1,List.length_map])
       have HSM:Hid (∀x∈(dE l (nd l) k).1.set k (qs.length:Int),I64 x):=Lib.hid (fun x hx=>by
        rcases xL hx with h|rfl
        ·have:=(mX l (nd l) k).2 x h;constructor<;>omega
        ·constructor<;>omega)
       have HPLN:Hid (((dE l (nd l) k).1.set k (qs.length:Int)).length=ps.length):=Lib.hid (by rw [qF,mU,HPL.out])
       have HKB:Hid (s.kind=1∨s.kind=2∨(s.kind=3∧0≤s.p∧s.p<(k:Int)∧0≤s.q∧s.q<(k:Int))):=Lib.hid (by
        have h1:=HKD.out k (by have:=HPL.out;omega)
        have h2:=HBK.out k (by have:=HPL.out;omega)
        rw [HSG.out] at h1 h2
        rcases h1 with h|h|h
        ·exact .inl h
        ·exact .inr (.inl h)
        ·exact .inr (.inr ⟨h,h2 h⟩))
       obtain ⟨x0,hx0⟩:∃x0,(dE l (nd l) k).1[k]? = some x0:=⟨_,List.getElem?_eq_getElem (by rw [mU];have:=HPL.out;omega)⟩
       have c2:=HT3.out.p.cell k
       rw [mI hx0] at c2
       have z2:=HT3.out.p.frozen k
       have HT4:=Lib.hid (HT3.out.setP k (qs.length:Int))
       have hgpl:gp<wr.heap.size:=HT2.out.p.lt
       have HBX4:=Lib.hid (HBX.out.grown (wP W4 gp k (.int .i64 (qs.length:Int))) (by simp;omega))
       generalize (dE l (nd l) k).1.set k (qs.length:Int)=pl2 at *
       clear hx0 hgpl
       go_upto_region 19 with fail
       generalize W4.setCell ⟨gp,k,none⟩ (.int .i64 (qs.length:Int))=W5 at *
       clear c1 c2 z2
       have r0:=HBX4.out.cell 0
       have r1:=HBX4.out.cell 1
       have r2:=HBX4.out.cell 2
       have r3:=HBX4.out.cell 3
       have r4:=HBX4.out.cell 4
       have r5:=HBX4.out.cell 5
       simp only [zA,zB,zC] at r0 r1 r2 r3 r4 r5
       have HPI:Hid (Ints W5 (.slice (some ⟨gp,0,none⟩) ps.length ps.length) pl2):=Lib.hid (by
        have h:=Blk.ints HT4.out.p HSM.out (by rw [HPLN.out];unfold maxLen;omega)
        rw [HPLN.out] at h
        exact h)
       have HCALL:Hid (Calls Try.prog 49 #[.agg #[.int .i64 s.kind, .int .i64 s.index, .slice As s.lits.length cs', .int .i64 s.p, .int .i64 s.q, .int .i64 s.var], .slice (some ⟨gp,0,none⟩) ps.length ps.length] W5 (BareRet W5 (bareS s pl2))) :=
        Lib.hid (bare_any s (.slice As s.lits.length cs') _ pl2 W5 ((HP4.out.1.keep HB1.out).keep HT4.out.bl) HPI.out (by have:=HQ.out.2.2.2 s (by rw [←HSG.out,List.getD_eq_getElem?_getD,List.getElem?_eq_getElem (show k<l.length by have:=HPL.out;omega)];exact yQ _);omega) (by rw [HPLN.out];rcases HKB.out with h|h|⟨h1,h2,h3,h4,h5⟩;exact .inl h;exact .inr (.inl h);exact .inr (.inr ⟨h1,h2,by omega,h4,by omega⟩)))
       have HSO:Hid ((bareS s pl2).ok):=Lib.hid (bareS_ok HP4.out.2 HSM.out)
       have HBL:Hid ((bareS s pl2).lits.length≤1000000∧(bareS s pl2).lits.length≤1000000):=Lib.hid (by
        have h:s.lits.length≤1000000:=by have:=HQ.out.2.2.2 s (by rw [←HSG.out,List.getD_eq_getElem?_getD,List.getElem?_eq_getElem (show k<l.length by have:=HPL.out;omega)];exact yQ _);omega
        have:(bareS s pl2).lits.length≤1000000:=by unfold bareS;split;simp;split;exact h;simp
        exact ⟨this,this⟩)
       generalize bareS s pl2=s2 at *
       go_wp2_with fail
       refine HCALL.out.mono ?_
       rintro e w6 ⟨A6,c6,rfl,hi6,hb6⟩
       have HT6:=Lib.hid (HT4.out.keep hb6)
       have HI6:Hid (IntsO w6 (fun b=>gp+1≤b∧some b≠(Value.slice Ao qs.length co).ownBlock) (.slice A6 s2.lits.length c6) s2.lits):=Lib.hid (hi6.mono fun b _ hb=>⟨by have:=HT4.out.hi;omega,fun e=>by have:=(HT4.out.os.1.lt b e.symm).2;omega⟩)
       clear hi6 hb6 r0 r1 r2 r3 r4 r5 HCALL HBX4
       rw [show Stp.val s2 (.slice A6 s2.lits.length c6) = .agg #[.int .i64 s2.kind, .int .i64 s2.index, .slice A6 s2.lits.length c6, .int .i64 s2.p, .int .i64 s2.q, .int .i64 s2.var] from rfl]
       have HO:Hid (∀u∈([.int .i64 s2.kind, .int .i64 s2.index, .slice A6 s2.lits.length c6, .int .i64 s2.p, .int .i64 s2.q, .int .i64 s2.var]:List Value),u.oneCell'=true):=by
        refine Lib.hid ?_
        intro u hu;simp at hu;rcases hu with rfl|rfl|rfl|rfl|rfl|rfl<;>rfl
       have H63:Hid (qs.length+1≤maxLen):=by refine Lib.hid ?_;unfold maxLen;omega
       have HBY:Hid ((qs.length+1) * 64≤140737488355328):=by refine Lib.hid ?_;omega
       have HBA:Hid (gp+1≤(w6.alloc (.cells #[.int .i64 s2.kind, .int .i64 s2.index, .slice A6 s2.lits.length c6, .int .i64 s2.p, .int .i64 s2.q, .int .i64 s2.var] 91)).heap.size):=by refine Lib.hid ?_;have:=HT6.out.hi;simp;omega
       go_wp2_with (at_builtin;refine zX _ rfl _ _ 31 rfl (gp+1) 91 iT zT 6 64 Try.underlying31 hiT hzT0 hzT1 hzT2 rfl (by decide) _ _ _ rfl (HT6.out.os.1.alloc _) ⟨w6.heap.size,0,none⟩ 1 1 [.int .i64 s2.kind, .int .i64 s2.index, .slice A6 s2.lits.length c6, .int .i64 s2.p, .int .i64 s2.q, .int .i64 s2.var] rfl rfl (gQ w6 _ [.int .i64 s2.kind, .int .i64 s2.index, .slice A6 s2.lits.length c6, .int .i64 s2.p, .int .i64 s2.q, .int .i64 s2.var] rfl) HO.out H63.out HBY.out HBA.out ?_)
       intro v7 w7 hown hgrow _ hat
       have HT7:=Lib.hid (HT6.out.push (s:=s2) (lv := .slice A6 s2.lits.length c6) HI6.out HSO.out hown hgrow (by simpa using hat))
       obtain ⟨A7,c7,e7, -, -, -⟩:=wQ hown
       subst e7
       clear hown hgrow hat HO H63 HBY HBA
       go_wp2_with fail
       go_roundw
       case rel=>exact ⟨k+1,qs++[(s2, .slice A6 s2.lits.length c6)],by omega,by go_num,by rw [HE.out,List.map_append,HQS.out];rfl,by rw [HE.out];exact HT7.out⟩
       case measure=>simp [intOf];omega
     ·have HE:Hid (qs.map (·.1)=oC l):=Lib.hid (by rw [HQS.out,show k=l.length by have:=HPL.out;omega];rfl)
      have hlo:=HT2.out.lo
      have hlt:=HT2.out.lt
      have hW1:=HB1.out.size
      go_wp2_with fail
      go_ret2
      refine ⟨HB1.out.trans (HT2.out.bl.mono HB1.out.size), .inl ⟨HRF.out,_,qs,rfl,HE.out,?_⟩⟩
      exact ⟨owns_base6 HT2.out.os.1 (by omega),fun q hq=>⟨(HT2.out.os.2 q hq).1.mono fun b _ hb=>⟨by have:=hb.1;omega,hb.2⟩,(HT2.out.os.2 q hq).2⟩⟩
 ·have HNR:=Lib.hid hrf
  have hne:(chk (gE f [] l) l.length).2≠0:=fun h=>HNR.out (lP h)
  generalize chk (gE f [] l) l.length=ck at *
  have dne:(ck.2 != 0)=true:=by simpa using hne
  clear hne hrf
  go_wp2_with fail
  go_ret2
  exact ⟨HB1.out, .inr ⟨HNR.out,rfl⟩⟩
set_option maxRecDepth 100000 in
set_option maxHeartbeats 4000000 in
theorem lawSTr (pv:Value) (a b c:Int) (L:List Int) (w:World) (hp:fL w pv a b c L) :
  Calls Try.prog 14 #[pv] w fun e w'=>e = .returned (.bool true)∧Below w.heap.size w w':=by
 have HP:=Lib.hid hp
 obtain ⟨nv,rfl, -, -, -,hL⟩:=hp
 obtain ⟨An,cn,rfl, -, -, -, -⟩:=hL
 have HB:Hid (Below w.heap.size w (w.alloc (.cells #[.int .u8 a, .int .u8 b, .int .u8 c, .slice An L.length cn] 25))):=Lib.hid ((zM _ _).alloc (Nat.le_refl _) _)
 go_enter Try.func14,Try.ntmps14
 go_wp2_with fail
 generalize w.alloc (.cells #[.int .u8 a, .int .u8 b, .int .u8 c, .slice An L.length cn] 25)=W at *
 refine (lS _ a b c L _ ?hp).mono ?_
 case hp=>obtain ⟨nv,e1,e2⟩:=HP.out;exact ⟨_,rfl,e2.1,e2.2.1,e2.2.2.1,by injection e1 with e1;simp only [uI,uB,wL,wO] at e1;rw [e1];exact e2.2.2.2.keep HB.out⟩
 rintro e w2 ⟨fv,f,rfl,hf,hsm,hb2⟩
 obtain ⟨B,hB,hB1,hB2⟩:=hsm.nb
 have HB2:=Lib.hid (HB.out.trans (hb2.mono HB.out.size))
 have HF2:=Lib.hid hf
 have HSM:=Lib.hid hsm
 obtain ⟨av,cv,rfl, -, -,hf3,hf4⟩:=hf
 obtain ⟨Aa,ca,rfl, -, -, -, -⟩:=hf3
 obtain ⟨Ac,cc,vs,rfl, -, -, -, -, -⟩:=hf4
 clear hb2 hsm HB HP
 have HBK:=Lib.hid (Blk.new w2 29 #[.int .i64 f.ints, .int .i64 (B:Int), .slice Aa f.atoms.length ca, .slice Ac f.clauses.length cc])
 have hb3:Below w2.heap.size w2 (w2.alloc (.cells #[.int .i64 f.ints, .int .i64 (B:Int), .slice Aa f.atoms.length ca, .slice Ac f.clauses.length cc] 29)):=(zM _ _).alloc (Nat.le_refl _) _
 have HF3:=Lib.hid (HF2.out.keep hb3)
 have HB3:=Lib.hid (HB2.out.trans (hb3.mono HB2.out.size))
 rw [hB] at HF3
 clear hb3 HF2 HB2
 go_upto_region 2 with fail
 generalize w2.alloc (.cells #[.int .i64 f.ints, .int .i64 (B:Int), .slice Aa f.atoms.length ca, .slice Ac f.clauses.length cc] 29)=w3 at *
 generalize w2.heap.size=bk at *
 have q0:=HBK.out.cell 0
 have q1:=HBK.out.cell 1
 have q2:=HBK.out.cell 2
 have q3:=HBK.out.cell 3
 simp only [zA,zB,zC] at q0 q1 q2 q3
 obtain ⟨o, -,hc⟩:=bS (SmallF.valid HSM.out) hB (by omega) (SmallF.four HSM.out) w3 _ HF3.out
 have HC:=Lib.hid hc
 clear hc
 go_wp2_with fail
 refine HC.out.mono ?_
 rintro e w4 ⟨m0,m1,lv,rfl,hv4,hb4⟩
 obtain ⟨Am,nm,cm,Ax,nx,cx,rfl,rfl⟩:=hv4.shape
 have hb5:Below w4.heap.size w4 (w4.alloc (.cells #[.slice Am nm cm, .slice Ax nx cx] 35)):=(zM _ _).alloc (Nat.le_refl _) _
 have HMK:=Lib.hid (Blk.new w4 35 #[.slice Am nm cm, .slice Ax nx cx])
 have HV5:=Lib.hid (hv4.keep hb5)
 have HF5:=Lib.hid ((HF3.out.keep hb4).keep hb5)
 have HBK5:=Lib.hid ((HBK.out.keep hb4).keep hb5)
 have HB4:=Lib.hid (HB3.out.trans (hb4.mono HB3.out.size))
 have HB5:=Lib.hid (HB4.out.trans (hb5.mono HB4.out.size))
 have HV4:=Lib.hid hv4
 clear hv4 hb4 hb5 HB4 HB3 HBK HF3 HC q0 q1 q2 q3
 go_upto_region 3 with fail
 generalize w4.alloc (.cells #[.slice Am nm cm, .slice Ax nx cx] 35)=w5 at *
 cases o with
 | inl val =>
  obtain ⟨hlv, -⟩:=HV4.out
  subst hlv
  have e0:(Sum.inl val:List Int ⊕ List Stp).isLeft=true:=rfl
  rw [e0]
  clear e0
  go_wp2_with fail
  refine (eW _).mono ?_
  rintro e w8 ⟨rfl,hb8⟩
  have HB8:=Lib.hid (HB5.out.trans (hb8.mono HB5.out.size))
  clear hb8
  go_wp2_with fail
  go_ret
  exact ⟨rfl,HB8.out⟩
 | inr l =>
  obtain ⟨-, -,hl4,hask,hchk⟩:=HV5.out
  have e0:(Sum.inr l:List Int ⊕ List Stp).isLeft=false:=rfl
  rw [e0]
  have HRF:Hid (Refutes f l):=Lib.hid (lP (by rw [hchk]))
  have HL5:=Lib.hid hl4
  have HAS:=Lib.hid hask
  have HTL:Hid (eH f (oC l)):=Lib.hid ⟨HAS.out.1,HAS.out.2.1,qA (fZ HRF.out).2 HAS.out.2.2.1,trim_lits HRF.out HAS.out.2.2.2⟩
  obtain ⟨A,cl,ps,e1,e2, -, -, -, -⟩:=HL5.out
  subst e2
  clear e0 e1 hl4 hask hchk HV4 HV5
  have q0:=HBK5.out.cell 0
  have q1:=HBK5.out.cell 1
  have q2:=HBK5.out.cell 2
  have q3:=HBK5.out.cell 3
  simp only [zA,zB,zC] at q0 q1 q2 q3
  go_wp2_with fail
  refine (trimL_any _ _ f l _ HF5.out HL5.out HAS.out).mono ?_
  rintro e w6 ⟨hb6,⟨-,v6,ps6,rfl,hps6,hos6⟩|⟨hno, -⟩⟩
  ·have HB6:=Lib.hid (HB5.out.trans (hb6.mono HB5.out.size))
   have HF6:=Lib.hid (HF5.out.keep hb6)
   have HBK6:=Lib.hid (HBK5.out.keep hb6)
   have HS6:Hid (Stps w6 v6 (oC l)):=Lib.hid (by rw [←hps6];exact hos6.stps)
   obtain ⟨A6,c6,e6, -, -, -⟩:=wQ hos6.1
   subst e6
   clear hb6 hps6 hos6 q0 q1 q2 q3
   have q0:=HBK6.out.cell 0
   have q1:=HBK6.out.cell 1
   have q2:=HBK6.out.cell 2
   have q3:=HBK6.out.cell 3
   simp only [zA,zB,zC] at q0 q1 q2 q3
   go_wp2_with fail
   refine (lT _ _ f (oC l) _ HF6.out HS6.out HTL.out).mono ?_
   rintro e w7 ⟨rfl,hb7⟩
   rw [(fZ HRF.out).1.chk]
   have HB7:=Lib.hid (HB6.out.trans (hb7.mono HB6.out.size))
   clear hb7 q0 q1 q2 q3
   go_wp2_with fail
   refine (eW _).mono ?_
   rintro e w8 ⟨rfl,hb8⟩
   have HB8:=Lib.hid (HB7.out.trans (hb8.mono HB7.out.size))
   clear hb8
   go_wp2_with fail
   go_ret
   exact ⟨rfl,HB8.out⟩
  ·exact (hno HRF.out).elim
end Go.Proofs.Yticieifacalocaa
