/- ClsL -/
import Derived.Test.YticieifacalocaaTSH8
namespace Go.Proofs.Yticieifacalocaa
open Go.RowKit
def oF (f:Form) (l:List Stp):Prop:=validF f=0∧(∀c∈f.clauses,c.length≤200000)∧l.length≤1099511627776∧∀s∈l,s.lits.length≤1000000
set_option maxRecDepth 100000 in
set_option maxHeartbeats 4000000 in
theorem mC (fv lv:Value) (f:Form) (l:List Stp) (w:World) (hf:IsForm w fv f) (hl:Stps w lv l) (hq:oF f l) :
  Calls Try.prog 69 #[fv,lv] w (RClsRet w (wX f [] l)):=by
 obtain ⟨hv,hcl,hn,hll⟩:=hq
 have HF:=Lib.hid hf
 have HV:=Lib.hid hv
 have HOK:=Lib.hid (okC_of hv)
 have HCL:=Lib.hid hcl
 have HLL:=Lib.hid hll
 obtain ⟨av,cv,rfl, -, -,hf3,hf4⟩:=hf
 have HA:=Lib.hid hf3
 have HM:=Lib.hid hf4
 obtain ⟨Aa,ca,rfl, -, -, -, -⟩:=hf3
 obtain ⟨Ac,cc,vs,rfl,m1,m2,m3,m4,m5⟩:=hf4
 unfold maxLen at m2
 have HM3:=Lib.hid m3
 have HM4:=Lib.hid m4
 have HM5:=Lib.hid m5
 have hal:(f.atoms.length:Int)≤1024:=by have:=dG hv;omega
 obtain ⟨A,c,ps,hps,rfl,l1,l2,l3,l4⟩:=hl
 have hpl:ps.length=l.length:=by rw [hps];simp
 have HPS:=Lib.hid hps
 have HPL:=Lib.hid hpl
 have HR:=Lib.hid l3
 have H4:=Lib.hid l4
 unfold maxLen at l2
 have hpn:ps.length≤1099511627776:=by omega
 clear hv hcl hll hps hpl l3 l4 m3 m4 m5
 obtain ⟨iS,hiS,hzS0,hzS1,hzS2⟩:=qD aM
 go_enter Try.func69,Try.ntmps69
 go_wp2_with fail
 have hCL:CL w (w.alloc (.cells #[.int .i64 f.ints, .int .i64 f.bools, .slice Aa f.atoms.length ca, .slice Ac f.clauses.length cc] 29)) #[.int .i64 f.ints, .int .i64 f.bools, .slice Aa f.atoms.length ca, .slice Ac f.clauses.length cc] (.slice none 0 0) [] [] :=
  ⟨Blk.new w _ _,OwnMat.nil _ _ _,by simp,by simp,(zR w.heap.size w).alloc (Nat.le_refl _) _⟩
 generalize w.alloc (.cells #[.int .i64 f.ints, .int .i64 f.bools, .slice Aa f.atoms.length ca, .slice Ac f.clauses.length cc] 29)=W0 at *
 have HCL0:=Lib.hid hCL
 clear hCL
 go_loopw [6,13] (fun v i wr=>∃(k:Nat) (us:List Value) (cs:List (List Int)),k≤ps.length∧i = .int .i64 k∧cs.length=k∧wX f cs (l.drop k)=wX f [] l∧CL w wr #[.int .i64 f.ints, .int .i64 f.bools, .slice Aa f.atoms.length ca, .slice Ac f.clauses.length cc] v us cs) (fun _ i _=>ps.length-(intOf i).toNat)
 case atStart=>exact ⟨0,[],[],by omega,rfl,rfl,rfl,HCL0.out⟩
 case round =>
  obtain ⟨k,us,cs,hk,rfl,hck,hrun,hcl⟩:=hrel
  have H1:=Lib.hid hcl
  have HCK:=Lib.hid hck
  have HRUN:=Lib.hid hrun
  have hul:us.length=k:=by rw [hcl.om.2.1,hck]
  have HUL:=Lib.hid hul
  obtain ⟨Ax,cx,hx, -, -, -⟩:=wB hcl.om.1
  subst hx
  clear hcl hck hrun hul
  by_cases hlt:k<ps.length
  ·obtain ⟨⟨s,sv⟩,hp⟩:∃p,ps[k]? = some p:=⟨_,List.getElem?_eq_getElem hlt⟩
   obtain ⟨b1,o1,rfl,hb1,t0,t1,t2,t3,t4,t5⟩:=Stps.at_ (HR.out.keep H1.out.bl) hp
   have HP:=Lib.hid (H4.out (s,sv) (List.mem_of_getElem? hp))
   have HLK:Hid (l[k]? = some s):=by refine Lib.hid ?_;rw [HPS.out,List.getElem?_map,hp];rfl
   obtain ⟨As,cs',hsv, -, -, -, -⟩:=HP.out.1
   simp only at hsv t0 t1 t2 t3 t4 t5
   subst hsv
   have HSL:=Lib.hid (HLL.out s (List.mem_of_getElem? HLK.out))
   clear hp
   have HB3:Hid (Below wr.heap.size wr (wr.alloc (.cells #[.int .i64 s.kind, .int .i64 s.index, .slice As s.lits.length cs', .int .i64 s.p, .int .i64 s.q, .int .i64 s.var] 91))):=(zR _ _).alloc (Nat.le_refl _) _
   have H3:=Lib.hid (H1.out.keep HB3.out)
   have z0:=H3.out.b0.cell 0
   have z1:=H3.out.b0.cell 1
   have z2:=H3.out.b0.cell 2
   have z3:=H3.out.b0.cell 3
   simp only [zA,zB,zC] at z0 z1 z2 z3
   have hbs:∀g,(Value.slice Ax us.length cx).ownBlock=some g→g<wr.heap.size:=fun g e=>(H1.out.om.1.lt g e).2
   have HBS:=Lib.hid hbs
   have HSW:Hid ((wr.alloc (.cells #[.int .i64 s.kind, .int .i64 s.index, .slice As s.lits.length cs', .int .i64 s.p, .int .i64 s.q, .int .i64 s.var] 91)).heap.size=wr.heap.size+1):=by refine Lib.hid ?_;simp
   clear hbs
   by_cases k1:s.kind=1
   ·have e1:(s.kind == 1)=true:=by simp [k1]
    by_cases i0:0≤s.index
    ·have d1:decide (0≤s.index)=true:=by simpa using i0
     by_cases i1:s.index<(f.clauses.length:Int)
     ·have d2:decide (s.index<(f.clauses.length:Int))=true:=by simpa using i1
      obtain ⟨n,hn⟩:∃n:Nat,s.index=n:=⟨s.index.toNat,by omega⟩
      have hnl:n<f.clauses.length:=by omega
      obtain ⟨x,hx⟩:∃c,f.clauses[n]? = some c:=⟨_,List.getElem?_eq_getElem hnl⟩
      obtain ⟨b,off,A1,c1,rfl,hb,hcell,hI⟩:=Mat.at_ (HM4.out.keep H3.out.bl) HM3.out (fun k u xs a b=>(HM5.out k u xs a b).keep H3.out.bl) hx
      have HDV:Hid (deriv f s cs=wJ x):=by refine Lib.hid ?_;unfold deriv;rw [if_pos k1,if_pos (by omega),hn,Int.toNat_natCast,hx];rfl
      have HI:=Lib.hid hI
      have HLE:=Lib.hid (HCL.out x (List.mem_of_getElem? hx))
      rw [hn] at t1 d1 d2 hcell HI H3 HSW z0 z1 z2 z3
      clear k1 i0 i1 hx hI
      go_wp2_with fail
      generalize (wr.alloc (.cells #[.int .i64 s.kind, .int .i64 (n:Int), .slice As s.lits.length cs', .int .i64 s.p, .int .i64 s.q, .int .i64 s.var] 91))=W3 at *
      clear z0 z1 z2 z3 t0 t1 t2 t3 t4 t5 hcell
      refine (cP _ x _ HI.out (by have:=HLE.out;omega)).mono ?_
      rintro e w4 ⟨v,rfl,h5,h6⟩
      have H5:=Lib.hid h5
      have H6:=Lib.hid (H3.out.keep h6)
      clear h5 h6
      cases hd:wJ x with
      | none =>
       have HN:Hid (wX f [] l=(cs,false)):=by
        refine Lib.hid ?_
        rw [←HRUN.out];exact gT HLK.out (HDV.out.trans hd)
       clear hd
       simp only [vE]
       go_wp2_with fail
       go_ret2
       exact .inr ⟨by rw [HN.out],by rw [HN.out,HCK.out];rfl,H6.out.bl⟩
      | some d =>
       have HN:Hid (wX f (cs++[d]) (l.drop (k+1))=wX f [] l):=by
        refine Lib.hid ?_
        rw [←HRUN.out];exact fB HLK.out (HDV.out.trans hd)
       have HOC:=Lib.hid (lP HV.out H3.out.ok (HDV.out.trans hd))
       rw [hd] at H5
       simp only [kE,vF] at H5 ⊢
       obtain ⟨Ad,cd,hdv, -, -, -⟩:=wB H5.out.1
       subst hdv
       clear hd
       go_wp2_with (at_builtin;refine zW _ rfl _ _ 27 rfl (w.heap.size+1) 33 iS (.slice none 0 0) 1 24 Try.underlying27 hiS hzS0 hzS1 hzS2 rfl (by decide) _ _ _ rfl (H6.out.om.1.alloc _) ⟨w4.heap.size,0,none⟩ 1 1 [.slice Ad d.length cd] rfl rfl (wR w4 _ _) ?b2 ?b3 ?b4 ?b5 ?_)
       case b2=>first|rfl|(intro u hu;simp at hu;subst hu;rfl)
       case b3=>have:=HUL.out;unfold maxLen;omega
       case b4=>have:=HUL.out;omega
       case b5=>have:=H6.out.hi;first|omega|(simp;omega)
       intro v' w5 hown' hgrow _ hat
       have H7:=Lib.hid (H3.out.push (fun g e=>by have:=HBS.out g e;have:=HSW.out;omega) H6.out H5.out HOC.out H3.out.hi hown' hgrow (by simpa using hat))
       obtain ⟨Ap,cp,hvp, -, -, -⟩:=wB hown'
       subst hvp
       clear hown' hgrow hat
       go_wp2_with fail
       go_roundw
       case rel=>exact ⟨k+1,us++[.slice Ad d.length cd],cs++[d],by omega,by go_num,by simp [HCK.out],HN.out,H7.out⟩
       case measure=>simp [intOf];omega
     ·have d2:decide (s.index<(f.clauses.length:Int))=false:=by simp;omega
      have HN:Hid (wX f [] l=(cs,false)):=by
       refine Lib.hid ?_
       rw [←HRUN.out];exact gT HLK.out (by unfold deriv;rw [if_pos k1,if_pos i0,List.getElem?_eq_none (by omega)];rfl)
      clear k1 i0 i1
      go_wp2_with fail
      go_ret2
      exact .inr ⟨by rw [HN.out],by rw [HN.out,HCK.out];rfl,H3.out.bl⟩
    ·have d1:decide (0≤s.index)=false:=by simp;omega
     have HN:Hid (wX f [] l=(cs,false)):=by
      refine Lib.hid ?_
      rw [←HRUN.out];exact gT HLK.out (by unfold deriv;rw [if_pos k1,if_neg i0])
     clear k1 i0
     go_wp2_with fail
     go_ret2
     exact .inr ⟨by rw [HN.out],by rw [HN.out,HCK.out];rfl,H3.out.bl⟩
   have e1:(s.kind == 1)=false:=by simp [k1]
   by_cases k2:s.kind=2
   ·have e2:(s.kind == 2)=true:=by simp [k2]
    have HDV:Hid (deriv f s cs=cyc f.atoms s.lits):=by refine Lib.hid ?_;unfold deriv;rw [if_neg k1,if_pos k2]
    clear k1 k2
    go_wp2_with fail
    generalize (wr.alloc (.cells #[.int .i64 s.kind, .int .i64 s.index, .slice As s.lits.length cs', .int .i64 s.p, .int .i64 s.q, .int .i64 s.var] 91))=W3 at *
    clear z0 z1 z2 z3 t0 t1 t2 t3 t4 t5
    refine (oS _ _ _ _ _ f.atoms s.lits _ (HA.out.keep H3.out.bl) (HP.out.1.keep H3.out.bl) HOK.out HSL.out (by omega)).mono ?_
    rintro e w4 ⟨v,rfl,h5,h6⟩
    have H5:=Lib.hid h5
    have H6:=Lib.hid (H3.out.keep h6)
    clear h5 h6
    cases hd:cyc f.atoms s.lits with
    | none =>
     have HN:Hid (wX f [] l=(cs,false)):=by
      refine Lib.hid ?_
      rw [←HRUN.out];exact gT HLK.out (HDV.out.trans hd)
     clear hd
     simp only [vE]
     go_wp2_with fail
     go_ret2
     exact .inr ⟨by rw [HN.out],by rw [HN.out,HCK.out];rfl,H6.out.bl⟩
    | some d =>
     have HN:Hid (wX f (cs++[d]) (l.drop (k+1))=wX f [] l):=by
      refine Lib.hid ?_
      rw [←HRUN.out];exact fB HLK.out (HDV.out.trans hd)
     have HOC:=Lib.hid (lP HV.out H3.out.ok (HDV.out.trans hd))
     rw [hd] at H5
     simp only [kE,vF] at H5 ⊢
     obtain ⟨Ad,cd,hdv, -, -, -⟩:=wB H5.out.1
     subst hdv
     clear hd
     go_wp2_with (at_builtin;refine zW _ rfl _ _ 27 rfl (w.heap.size+1) 33 iS (.slice none 0 0) 1 24 Try.underlying27 hiS hzS0 hzS1 hzS2 rfl (by decide) _ _ _ rfl (H6.out.om.1.alloc _) ⟨w4.heap.size,0,none⟩ 1 1 [.slice Ad d.length cd] rfl rfl (wR w4 _ _) ?c2 ?c3 ?c4 ?c5 ?_)
     case c2=>first|rfl|(intro u hu;simp at hu;subst hu;rfl)
     case c3=>have:=HUL.out;unfold maxLen;omega
     case c4=>have:=HUL.out;omega
     case c5=>have:=H6.out.hi;first|omega|(simp;omega)
     intro v' w5 hown' hgrow _ hat
     have H7:=Lib.hid (H3.out.push (fun g e=>by have:=HBS.out g e;have:=HSW.out;omega) H6.out H5.out HOC.out H3.out.hi hown' hgrow (by simpa using hat))
     obtain ⟨Ap,cp,hvp, -, -, -⟩:=wB hown'
     subst hvp
     clear hown' hgrow hat
     go_wp2_with fail
     go_roundw
     case rel=>exact ⟨k+1,us++[.slice Ad d.length cd],cs++[d],by omega,by go_num,by simp [HCK.out],HN.out,H7.out⟩
     case measure=>simp [intOf];omega
   have e2:(s.kind == 2)=false:=by simp [k2]
   by_cases k3:s.kind=3
   ·have e3:(s.kind == 3)=true:=by simp [k3]
    have HDV:Hid (deriv f s cs=resE cs s):=by refine Lib.hid ?_;unfold deriv;rw [if_neg k1,if_neg k2,if_pos k3];rfl
    clear k1 k2 k3
    by_cases p0:0≤s.p
    ·have d1:decide (0≤s.p)=true:=by simpa using p0
     by_cases p1:s.p<(k:Int)
     ·have d2:decide (s.p<(k:Int))=true:=by simpa using p1
      by_cases q0:0≤s.q
      ·have d3:decide (0≤s.q)=true:=by simpa using q0
       by_cases q1:s.q<(k:Int)
       ·have d4:decide (s.q<(k:Int))=true:=by simpa using q1
        obtain ⟨p,hp⟩:∃n:Nat,s.p=n:=⟨s.p.toNat,by omega⟩
        obtain ⟨q,hq⟩:∃n:Nat,s.q=n:=⟨s.q.toNat,by omega⟩
        obtain ⟨P,hP⟩:∃c,cs[p]? = some c:=⟨_,List.getElem?_eq_getElem (by have:=HCK.out;omega)⟩
        obtain ⟨Q,hQ⟩:∃c,cs[q]? = some c:=⟨_,List.getElem?_eq_getElem (by have:=HCK.out;omega)⟩
        obtain ⟨A',c',vs',hv', -, -,g3,g4,g5⟩:=H3.out.om.mat
        injection hv' with x1 x2 x3
        subst x1 x3
        obtain ⟨b,off,A1,c1,hAb,hb,hcellP,hIP⟩:=Mat.at_ g4 g3 g5 hP
        obtain ⟨b',off',A2,c2,hAb',hb',hcellQ,hIQ⟩:=Mat.at_ g4 g3 g5 hQ
        subst hAb
        injection hAb' with y
        injection y with y1 y2
        subst y1 y2
        have HRE:=Lib.hid (resE_some (s:=s) hp hq hP hQ)
        have HIP:=Lib.hid hIP
        have HIQ:=Lib.hid hIQ
        have HLP:=Lib.hid (H3.out.ok P (List.mem_of_getElem? hP)).len
        have HLQ:=Lib.hid (H3.out.ok Q (List.mem_of_getElem? hQ)).len
        have hpk:p<k:=by omega
        have hqk:q<k:=by omega
        have hpu:p<us.length:=by have:=HUL.out;omega
        have hqu:q<us.length:=by have:=HUL.out;omega
        rw [hp] at t3 d1 d2 H3 HSW z0 z1 z2 z3 HIP HIQ hcellP hcellQ hb hb'
        rw [hq] at t4 d3 d4 H3 HSW z0 z1 z2 z3 HIP HIQ hcellP hcellQ hb hb'
        clear p0 p1 q0 q1 hP hQ hIP hIQ g3 g4 g5 x2
        go_wp2_with fail
        have B1:=Blk.new wr 91 #[.int .i64 s.kind, .int .i64 s.index, .slice As s.lits.length cs', .int .i64 (p:Int), .int .i64 (q:Int), .int .i64 s.var]
        generalize (wr.alloc (.cells #[.int .i64 s.kind, .int .i64 s.index, .slice As s.lits.length cs', .int .i64 (p:Int), .int .i64 (q:Int), .int .i64 s.var] 91))=W3 at *
        have r3:=B1.cell 3
        have r4:=B1.cell 4
        have r5:=B1.cell 5
        simp only [zA,zB,zC] at r3 r4 r5
        have hlt1:=B1.lt
        have HSOF:Hid (∀w',Below W3.heap.size W3 w'→w'.cell? ⟨wr.heap.size,3,none⟩=some (.int .i64 (p:Int))∧w'.cell? ⟨wr.heap.size,4,none⟩=some (.int .i64 (q:Int))∧w'.cell? ⟨wr.heap.size,5,none⟩=some (.int .i64 s.var)∧w'.cell? ⟨b,off+p,none⟩=some (.slice A1 P.length c1)∧w'.cell? ⟨b,off+q,none⟩=some (.slice A2 Q.length c2)) :=
         fun w' h=>⟨(h.cell (p:=⟨wr.heap.size,3,none⟩) hlt1).trans r3,(h.cell (p:=⟨wr.heap.size,4,none⟩) hlt1).trans r4,(h.cell (p:=⟨wr.heap.size,5,none⟩) hlt1).trans r5,(h.cell (p:=⟨b,off+p,none⟩) hb).trans hcellP,(h.cell (p:=⟨b,off+q,none⟩) hb).trans hcellQ⟩
        clear z0 z1 z2 z3 t0 t1 t2 t3 t4 t5 hcellP hcellQ r3 r4 r5 B1 e1 e2 e3 d1 d2 d3 d4 hp hq
        go_region_held3 (fun w'=>w'.cell? ⟨wr.heap.size,3,none⟩=some (.int .i64 (p:Int))∧w'.cell? ⟨wr.heap.size,4,none⟩=some (.int .i64 (q:Int))∧w'.cell? ⟨wr.heap.size,5,none⟩=some (.int .i64 s.var)∧w'.cell? ⟨b,off+p,none⟩=some (.slice A1 P.length c1)∧w'.cell? ⟨b,off+q,none⟩=some (.slice A2 Q.length c2)) (first|assumption|exact HSOF.out _ (zR _ _).drew) (first
         | (go_at_call 53;refine (iP _ _ P Q s.var _ (HIP.out.keep (zR _ _).drew) (HIQ.out.keep (zR _ _).drew) (by have:=HLP.out;omega) (by have:=HLQ.out;omega)).mono ?_;rintro e w4 ⟨v,rfl,h5,h6⟩;have hs4:=HSOF.out w4 (jS (zR _ _).drew h6)))
        have h5:Own w4 W3.heap.size v ((resE cs s).getD []):=by rw [HRE.out];exact h5
        rw [←HRE.out]
        have h6:Below W3.heap.size W3 w4:=jS (zR _ _).drew h6
        clear hs4
        have H5:=Lib.hid h5
        have H6:=Lib.hid (H3.out.keep h6)
        clear h5 h6
        cases hd:resE cs s with
        | none =>
         have HN:Hid (wX f [] l=(cs,false)):=by
          refine Lib.hid ?_
          rw [←HRUN.out];exact gT HLK.out (HDV.out.trans hd)
         clear hd
         simp only [vE]
         go_wp2_with fail
         go_ret2
         exact .inr ⟨by rw [HN.out],by rw [HN.out,HCK.out];rfl,H6.out.bl⟩
        | some d =>
         have HN:Hid (wX f (cs++[d]) (l.drop (k+1))=wX f [] l):=by
          refine Lib.hid ?_
          rw [←HRUN.out];exact fB HLK.out (HDV.out.trans hd)
         have HOC:=Lib.hid (lP HV.out H3.out.ok (HDV.out.trans hd))
         rw [hd] at H5
         simp only [kE,vF] at H5 ⊢
         obtain ⟨Ad,cd,hdv, -, -, -⟩:=wB H5.out.1
         subst hdv
         clear hd
         go_wp2_with (at_builtin;refine zW _ rfl _ _ 27 rfl (w.heap.size+1) 33 iS (.slice none 0 0) 1 24 Try.underlying27 hiS hzS0 hzS1 hzS2 rfl (by decide) _ _ _ rfl (H6.out.om.1.alloc _) ⟨w4.heap.size,0,none⟩ 1 1 [.slice Ad d.length cd] rfl rfl (wR w4 _ _) ?d2 ?d3 ?d4 ?d5 ?_)
         case d2=>first|rfl|(intro u hu;simp at hu;subst hu;rfl)
         case d3=>have:=HUL.out;unfold maxLen;omega
         case d4=>have:=HUL.out;omega
         case d5=>have:=H6.out.hi;first|omega|(simp;omega)
         intro v' w5 hown' hgrow _ hat
         have H7:=Lib.hid (H3.out.push (fun g e=>by have:=HBS.out g e;have:=HSW.out;omega) H6.out H5.out HOC.out H3.out.hi hown' hgrow (by simpa using hat))
         obtain ⟨Ap,cp,hvp, -, -, -⟩:=wB hown'
         subst hvp
         clear hown' hgrow hat
         go_wp2_with fail
         go_roundw
         case rel=>exact ⟨k+1,us++[.slice Ad d.length cd],cs++[d],by omega,by go_num,by simp [HCK.out],HN.out,H7.out⟩
         case measure=>simp [intOf];omega
       ·have d4:decide (s.q<(k:Int))=false:=by simp;omega
        have HN:Hid (wX f [] l=(cs,false)):=by
         refine Lib.hid ?_
         rw [←HRUN.out];exact gT HLK.out (HDV.out.trans (aH (by have:=HCK.out;omega)))
        clear p0 p1 q0 q1
        go_wp2_with fail
        go_ret2
        exact .inr ⟨by rw [HN.out],by rw [HN.out,HCK.out];rfl,H3.out.bl⟩
      ·have d3:decide (0≤s.q)=false:=by simp;omega
       have HN:Hid (wX f [] l=(cs,false)):=by
        refine Lib.hid ?_
        rw [←HRUN.out];exact gT HLK.out (HDV.out.trans (aH (by have:=HCK.out;omega)))
       clear p0 p1 q0
       go_wp2_with fail
       go_ret2
       exact .inr ⟨by rw [HN.out],by rw [HN.out,HCK.out];rfl,H3.out.bl⟩
     ·have d2:decide (s.p<(k:Int))=false:=by simp;omega
      have HN:Hid (wX f [] l=(cs,false)):=by
       refine Lib.hid ?_
       rw [←HRUN.out];exact gT HLK.out (HDV.out.trans (aH (by have:=HCK.out;omega)))
      clear p0 p1
      go_wp2_with fail
      go_ret2
      exact .inr ⟨by rw [HN.out],by rw [HN.out,HCK.out];rfl,H3.out.bl⟩
    ·have d1:decide (0≤s.p)=false:=by simp;omega
     have HN:Hid (wX f [] l=(cs,false)):=by
      refine Lib.hid ?_
      rw [←HRUN.out];exact gT HLK.out (HDV.out.trans (aH (by have:=HCK.out;omega)))
     clear p0
     go_wp2_with fail
     go_ret2
     exact .inr ⟨by rw [HN.out],by rw [HN.out,HCK.out];rfl,H3.out.bl⟩
   have e3:(s.kind == 3)=false:=by simp [k3]
   have HN:Hid (wX f [] l=(cs,false)):=by
    refine Lib.hid ?_
    rw [←HRUN.out];exact gT HLK.out (by unfold deriv;rw [if_neg k1,if_neg k2,if_neg k3])
   clear k1 k2 k3
   go_wp2_with fail
   go_ret2
   exact .inr ⟨by rw [HN.out],by rw [HN.out,HCK.out];rfl,H3.out.bl⟩
  ·have HN:Hid (wX f [] l=(cs,true)):=by refine Lib.hid ?_;rw [←HRUN.out];exact runS_end (by have:=HPL.out;omega)
   go_wp2_with fail
   go_ret2
   exact .inl ⟨by rw [HN.out],_,rfl,by rw [HN.out];exact H1.out.out⟩
end Go.Proofs.Yticieifacalocaa
