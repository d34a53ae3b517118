/- PClsL BareP Chk TrimP -/
import Derived.Test.YticieifacalocaaTSC49
import Derived.Test.YticieifacalocaaTSC26
import Derived.StillTailTactics
namespace Go.Proofs.Yticieifacalocaa
open Go.RowKit
set_option maxRecDepth 100000 in
set_option maxHeartbeats 1000000 in
theorem oI (fv lv:Value) (f:Form) (l:List Stp) (w:World) (hf:IsForm w fv f) (hl:Stps w lv l) (hq:eH f l) :
  Calls Try.prog 50 #[fv,lv] w (ClsRet w (gE f [] l)):=by
 obtain ⟨hv,hcl,hn,hll⟩:=hq
 have HF:=Lib.hid hf
 have HV:=Lib.hid hv
 have HCL:=Lib.hid hcl
 have HLL:=Lib.hid hll
 obtain ⟨av,cv,rfl, -, -,hf3,hf4⟩:=hf
 obtain ⟨Aa,ca,rfl, -, -, -, -⟩:=hf3
 obtain ⟨Ac,cc,vs,rfl, -, -, -, -, -⟩:=hf4
 obtain ⟨A,c,ps,hps,rfl,l1,l2,l3,l4⟩:=hl
 have hpl:ps.length=l.length:=by rw [hps];simp
 have HPS:=Lib.hid hps
 have HPL:=Lib.hid hpl
 have HR:=Lib.hid l3
 have H4:=Lib.hid l4
 unfold maxLen at l2
 have hpn:ps.length≤1099511627776:=by omega
 clear hv hcl hll hps hpl l3 l4
 obtain ⟨iS,hiS,hzS0,hzS1,hzS2⟩:=qC cD
 go_enter Try.func50,Try.ntmps50
 go_wp2_with (at_make;refine wpList_make_own _ rfl _ _ 27 rfl (w.heap.size+1) 33 iS (.slice none 0 0) 1 Try.underlying27 hiS hzS0 hzS1 .i64 .i64 _ ps.length rfl rfl rfl (by rw [hzS2];omega) (by unfold maxLen;omega) (by simp) ?_;intro w0 hown0 hg0)
 have hCL:CL w w0 #[.int .i64 f.ints, .int .i64 f.bools, .slice Aa f.atoms.length ca, .slice Ac f.clauses.length cc] (.slice (some ⟨w.heap.size+1,0,none⟩) 0 ps.length) [] []:=by
  refine ⟨(Blk.new w _ _).grown hg0 (by simp),⟨by simpa using hown0,rfl,fun k u xs h=>by simp at h⟩,by simp,by have:=hg0.size;simp at this;omega,?_⟩
  exact ((zM w.heap.size w).alloc (Nat.le_refl _) _).grown hg0 (by simp) (by simp)
 have HCL0:=Lib.hid hCL
 clear hCL hown0 hg0
 go_loopw [7,17] (fun v i wr=>∃(k:Nat) (us:List Value) (cs:List (List Int)),k≤ps.length∧i = .int .i64 k∧cs.length=k∧gE f cs (l.drop k)=gE f [] l∧CL w wr #[.int .i64 f.ints, .int .i64 f.bools, .slice Aa f.atoms.length ca, .slice Ac f.clauses.length cc] v us cs) (fun _ i _=>ps.length-(intOf i).toNat)
 case atStart=>exact ⟨0,[],[],by omega,rfl,rfl,rfl,HCL0.out⟩
 case round =>
  obtain ⟨k,us,cs,hk,rfl,hck,hrun,hcl⟩:=hrel
  have H1:=Lib.hid hcl
  have HCK:=Lib.hid hck
  have HRUN:=Lib.hid hrun
  have hul:us.length=k:=by rw [hcl.om.2.1,hck]
  have HUL:=Lib.hid hul
  obtain ⟨Ax,cx,hx, -, -, -⟩:=wQ hcl.om.1
  subst hx
  have q0:=hcl.b0.cell 0
  have q1:=hcl.b0.cell 1
  have q2:=hcl.b0.cell 2
  have q3:=hcl.b0.cell 3
  simp only [zA,zB,zC] at q0 q1 q2 q3
  clear hcl hck hrun hul
  by_cases hlt:k<ps.length
  ·obtain ⟨⟨s,sv⟩,hp⟩:∃p,ps[k]? = some p:=⟨_,List.getElem?_eq_getElem hlt⟩
   obtain ⟨b1,o1,rfl,hb1,t0,t1,t2,t3,t4,t5⟩:=Stps.at_ (HR.out.keep H1.out.bl) hp
   have HP:=Lib.hid (H4.out (s,sv) (List.mem_of_getElem? hp))
   have HLK:Hid (l[k]? = some s):=by refine Lib.hid ?_;rw [HPS.out,List.getElem?_map,hp];rfl
   obtain ⟨As,cs',hsv, -, -, -, -⟩:=HP.out.1
   simp only at hsv t0 t1 t2 t3 t4 t5
   subst hsv
   clear hp
   have HB3:Hid (Below wr.heap.size wr (wr.alloc (.cells #[.int .i64 s.kind, .int .i64 s.index, .slice As s.lits.length cs', .int .i64 s.p, .int .i64 s.q, .int .i64 s.var] 91))):=(zM _ _).alloc (Nat.le_refl _) _
   have B0:=H1.out.b0.keep HB3.out
   have z0:=B0.cell 0
   have z1:=B0.cell 1
   have z2:=B0.cell 2
   have z3:=B0.cell 3
   simp only [zA,zB,zC] at z0 z1 z2 z3
   clear B0
   go_wp2_with fail
   have H3:=Lib.hid (H1.out.keep HB3.out)
   have hbs:∀g,(Value.slice Ax us.length cx).ownBlock=some g→g<wr.heap.size:=fun g e=>(H1.out.om.1.lt g e).2
   have HBS:=Lib.hid hbs
   have HISF:Hid (IsForm (wr.alloc (.cells #[.int .i64 s.kind, .int .i64 s.index, .slice As s.lits.length cs', .int .i64 s.p, .int .i64 s.q, .int .i64 s.var] 91)) (.agg #[.int .i64 f.ints, .int .i64 f.bools, .slice Aa f.atoms.length ca, .slice Ac f.clauses.length cc]) f):=HF.out.keep H3.out.bl
   have HISS:Hid (IsStp (wr.alloc (.cells #[.int .i64 s.kind, .int .i64 s.index, .slice As s.lits.length cs', .int .i64 s.p, .int .i64 s.q, .int .i64 s.var] 91)) (.agg #[.int .i64 s.kind, .int .i64 s.index, .slice As s.lits.length cs', .int .i64 s.p, .int .i64 s.q, .int .i64 s.var]) s):=⟨_,rfl,HP.out.1.keep H3.out.bl,HP.out.2.1,HP.out.2.2.1,HP.out.2.2.2.1,HP.out.2.2.2.2.1,HP.out.2.2.2.2.2⟩
   clear q0 q1 q2 q3 z0 z1 z2 z3 t0 t1 t2 t3 t4 t5 hbs
   generalize hW3:wr.alloc (.cells #[.int .i64 s.kind, .int .i64 s.index, .slice As s.lits.length cs', .int .i64 s.p, .int .i64 s.q, .int .i64 s.var] 91)=W3 at *
   have hsW:W3.heap.size=wr.heap.size+1:=by rw [←hW3];simp
   have HSW:=Lib.hid hsW
   clear hW3 hsW
   refine (pderive_any _ _ _ f s cs _ HISF.out HISS.out H3.out.om.mat HV.out HCL.out H3.out.ok (HLL.out s (List.mem_of_getElem? HLK.out))).mono ?_
   rintro e w4 ⟨v,rfl,h5,h6⟩
   have H5:=Lib.hid h5
   have H6:=Lib.hid (H3.out.keep h6)
   clear h5 h6
   cases hd:deriv f s cs with
   | none =>
    have HN:Hid (gE f [] l=(cs,false)):=by rw [←HRUN.out];exact dF HLK.out hd
    clear hd
    simp only [kO]
    go_wp2_with fail
    go_ret3
    exact .inr ⟨by rw [HN.out],by rw [HN.out,HCK.out];rfl,H6.out.bl⟩
   | some d =>
    have HN:Hid (gE f (cs++[d]) (l.drop (k+1))=gE f [] l):=by rw [←HRUN.out];exact eR HLK.out hd
    have HOC:=Lib.hid (iQ HV.out H3.out.ok hd)
    rw [hd] at H5
    simp only [xQ,kP] at H5 ⊢
    obtain ⟨Ad,cd,hdv, -, -, -⟩:=wQ H5.out.1
    subst hdv
    clear hd
    go_wp2_with (at_builtin;refine zX _ rfl _ _ 27 rfl (w.heap.size+1) 33 iS (.slice none 0 0) 1 24 Try.underlying27 hiS hzS0 hzS1 hzS2 rfl (by decide) _ _ _ rfl (H6.out.om.1.alloc _) ⟨w4.heap.size,0,none⟩ 1 1 [.slice Ad d.length cd] rfl rfl (gN w4 _ _) ?a2 ?a3 ?a4 ?a5 ?_)
    case a2=>first|rfl|(intro u hu;simp at hu;subst hu;rfl)
    case a3=>have:=HUL.out;unfold maxLen;omega
    case a4=>have:=HUL.out;omega
    case a5=>have:=H6.out.hi;first|omega|(simp;omega)
    intro v' w5 hown' hgrow _ hat
    have H7:=Lib.hid (H3.out.push (fun g e=>by have:=HBS.out g e;have:=HSW.out;omega) H6.out H5.out HOC.out H3.out.hi hown' hgrow (by simpa using hat))
    obtain ⟨Ap,cp,hvp, -, -, -⟩:=wQ hown'
    subst hvp
    clear hown' hgrow hat
    go_wp2_with fail
    go_roundw
    case rel=>exact ⟨k+1,us++[.slice Ad d.length cd],cs++[d],by omega,by go_num,by simp [HCK.out],HN.out,H7.out⟩
    case measure=>simp [intOf];omega
  ·have HN:Hid (gE f [] l=(cs,true)):=by rw [←HRUN.out];exact sE (by have:=HPL.out;omega)
   go_wp2_with fail
   go_ret3
   exact .inl ⟨by rw [HN.out],_,rfl,by rw [HN.out];exact H1.out.out⟩
set_option maxRecDepth 100000 in
set_option maxHeartbeats 1000000 in
theorem lT (fv lv:Value) (f:Form) (l:List Stp) (w:World) (hf:IsForm w fv f) (hl:Stps w lv l) (hq:eH f l) :
  Calls Try.prog 31 #[fv,lv] w (ChkRet w (chk (gE f [] l) l.length)):=by
 have HF:=Lib.hid hf
 have HQ:=Lib.hid hq
 have HL:=Lib.hid hl
 obtain ⟨av,cv,rfl, -, -,hf3,hf4⟩:=hf
 obtain ⟨Aa,ca,rfl, -, -, -, -⟩:=hf3
 obtain ⟨Ac,cc,vs,rfl, -, -, -, -, -⟩:=hf4
 obtain ⟨A,c,ps,hps,rfl,l1,l2, -, -⟩:=hl
 have hpl:ps.length=l.length:=by rw [hps];simp
 have HPL:=Lib.hid hpl
 unfold maxLen at l2
 have hpn:ps.length≤1099511627776:=by have:=hq.2.2.1;omega
 clear hq hps hpl
 have HB:Hid (Below w.heap.size w (w.alloc (.cells #[.int .i64 f.ints, .int .i64 f.bools, .slice Aa f.atoms.length ca, .slice Ac f.clauses.length cc] 29))):=(zM _ _).alloc (Nat.le_refl _) _
 go_enter Try.func31,Try.ntmps31
 go_wp2_with fail
 refine (oI _ _ f l _ (HF.out.keep HB.out) (HL.out.keep HB.out) HQ.out).mono ?_
 rintro e w2 hret
 cases hr:gE f [] l with
 | mk cs ok =>
  have HR:=Lib.hid hr
  rw [hr] at hret
  rcases hret with ⟨h1,v,rfl,us,hom,hb⟩|⟨h1,rfl,hb⟩
  ·simp only at h1
   subst h1
   have hcl:cs.length=ps.length:=by have:=runS_len (f:=f) l [] (by rw [hr]);rw [hr] at this;simpa [HPL.out] using this
   have hul:us.length=ps.length:=by rw [hom.2.1];exact hcl
   have HB2:=Lib.hid (HB.out.trans (hb.mono HB.out.size))
   have HM:=Lib.hid hom.mat
   obtain ⟨Ax,cx,hx, -, -,hrd⟩:=wQ hom.1
   subst hx
   have HOM:=Lib.hid hom
   have HRD:=Lib.hid hrd
   have HCL:=Lib.hid hcl
   have HUL:=Lib.hid hul
   clear hr hb hom hrd hcl hul
   by_cases h0:ps.length=0
   ·have d0:((ps.length:Int) == 0)=true:=by simp;exact qK h0
    have HC:Hid (chk (gE f [] l) l.length=((ps.length:Int),15)):=by refine Lib.hid ?_;rw [HR.out,←HPL.out];unfold chk;rw [if_pos rfl,if_pos (.inl h0)]
    clear h0
    go_wp2_with fail
    go_ret2
    exact ⟨by rw [HC.out];rfl,HB2.out⟩
   ·have d0:((ps.length:Int) == 0)=false:=by simp;intro h;exact h0 (by rw [h];rfl)
    obtain ⟨c,hc⟩:∃c,cs[ps.length-1]? = some c:=⟨_,List.getElem?_eq_getElem (by have:=HCL.out;omega)⟩
    obtain ⟨A',c',vs',hv',m1,m2,m3,m4,m5⟩:=HM.out
    injection hv' with e1 e2 e3
    subst e1 e3
    obtain ⟨b,off,A1,c1,rfl,hb,hcell,hI⟩:=Mat.at_ m4 m3 m5 hc
    have HD:Hid (cs.getD (ps.length-1) []=c):=by refine Lib.hid ?_;simp [List.getD,hc]
    have hps0:1≤ps.length:=by omega
    have huI:Hid (us.length=ps.length):=HUL.out
    have hidx:((ps.length:Int)-1).toNat=ps.length-1:=by omega
    have hlt:(ps.length:Int)-1<(us.length:Int):=by have:=HUL.out;omega
    clear m1 m2 m3 m4 m5 hc hI e2
    by_cases hc0:c=[]
    ·subst hc0
     have HC:Hid (chk (gE f [] l) l.length=(0,0)):=by refine Lib.hid ?_;rw [HR.out,←HPL.out];unfold chk;rw [if_pos rfl,if_neg (by rw [HD.out];exact fun h=>h.elim h0 fun h=>h rfl)]
     simp only [yW] at hcell
     clear h0
     go_wp2_with fail
     go_ret2
     exact ⟨by rw [HC.out];rfl,HB2.out⟩
    ·have HC:Hid (chk (gE f [] l) l.length=((ps.length:Int),15)):=by refine Lib.hid ?_;rw [HR.out,←HPL.out];unfold chk;rw [if_pos rfl,if_pos (.inr (by rw [HD.out];exact hc0))]
     have hcl:0<c.length:=uG.2 hc0
     have dc:decide ((0:Int)<(c.length:Int))=true:=by simp;omega
     have dc':decide (0<c.length)=true:=by simp;omega
     clear h0 hc0
     go_wp2_with fail
     go_ret2
     exact ⟨by rw [HC.out];rfl,HB2.out⟩
  ·simp only at h1
   subst h1
   have HB2:=Lib.hid (HB.out.trans (hb.mono HB.out.size))
   have HC:Hid (chk (gE f [] l) l.length=((cs.length:Int),15)):=by refine Lib.hid ?_;rw [HR.out];rfl
   clear hr hb
   go_wp2_with fail
   go_ret2
   exact ⟨by rw [HC.out];rfl,HB2.out⟩
def BareRet (w:World) (s:Stp) (e:Ending) (w':World):Prop:=∃A c,e = .returned (Stp.val s (.slice A s.lits.length c))∧IntsO w' (fun b=>w.heap.size≤b) (.slice A s.lits.length c) s.lits∧Below w.heap.size w w'
theorem splice_all (n:Nat) (xs:List Int) (h:xs.length=n):splice ((List.replicate n (0:Int)).map (Value.int .i64)) 0 (xs.map (Value.int .i64))=xs.map (Value.int .i64):=by
 simp [splice,h]
theorem three0 (w0:World) (A B C:Array Value) (ta tb tc:TypeId):Blk (((w0.alloc (.cells A ta)).alloc (.cells B tb)).alloc (.cells C tc)) w0.heap.size ta A∧Blk (((w0.alloc (.cells A ta)).alloc (.cells B tb)).alloc (.cells C tc)) (w0.heap.size+1) tb B ∧
  Blk (((w0.alloc (.cells A ta)).alloc (.cells B tb)).alloc (.cells C tc)) (w0.heap.size+1+1) tc C∧Below w0.heap.size w0 (((w0.alloc (.cells A ta)).alloc (.cells B tb)).alloc (.cells C tc))∧(((w0.alloc (.cells A ta)).alloc (.cells B tb)).alloc (.cells C tc)).heap.size=w0.heap.size+1+1+1:=by
 have h1:=Blk.new (w0.alloc (.cells A ta)) tb B
 have h2:=Blk.new ((w0.alloc (.cells A ta)).alloc (.cells B tb)) tc C
 rw [show (w0.alloc (.cells A ta)).heap.size=w0.heap.size+1 by simp] at h1
 rw [show ((w0.alloc (.cells A ta)).alloc (.cells B tb)).heap.size=w0.heap.size+1+1 by simp] at h2
 exact ⟨((Blk.new w0 ta A).alloc _).alloc _,h1.alloc _,h2,(((zM _ _).alloc (Nat.le_refl _) _).alloc (by simp) _).alloc (by simp;omega) _,by simp⟩
set_option maxRecDepth 100000 in
set_option maxHeartbeats 1000000 in
theorem bare_any (s:Stp) (lv pv:Value) (pl:List Int) (w:World) (hl:Ints w lv s.lits) (hp:Ints w pv pl) (hn:s.lits.length≤1000000) (hb:s.kind=1∨s.kind=2∨(s.kind=3∧0≤s.p∧s.p<pl.length∧0≤s.q∧s.q<pl.length)) :
  Calls Try.prog 49 #[Stp.val s lv,pv] w (BareRet w (bareS s pl)):=by
 have HL:=Lib.hid hl
 have HP:=Lib.hid hp
 obtain ⟨A,c,rfl,l1,l2,l3,l4⟩:=hl
 obtain ⟨Ap,cp,rfl,p1,p2,p3,p4⟩:=hp
 have HR:=Lib.hid l4
 have HI:=Lib.hid l3
 have HPR:=Lib.hid p4
 unfold maxLen at l2 p2
 clear l3 l4 p3 p4
 obtain ⟨kind,index,lits,p,q,var⟩:=s
 simp only at *
 unfold Stp.val
 simp only
 rcases hb with rfl|rfl|⟨rfl,h1,h2,h3,h4⟩
 ·have HB:Hid (bareS ⟨1,index,lits,p,q,var⟩ pl=⟨1,index,[],0,0,0⟩):=Lib.hid (by simp [bareS])
  rw [HB.out]
  go_enter Try.func49,Try.ntmps49
  go_wp2_with fail
  exact xG (v := .agg #[.int .i64 1, .int .i64 index, .slice none 0 0, .int .i64 0, .int .i64 0, .int .i64 0]) (by simp [results,Try.results49,go_sem]) rfl ⟨none,0,rfl,oW _ _,by go_grown⟩
 ·have HB:Hid (bareS ⟨2,index,lits,p,q,var⟩ pl=⟨2,0,lits,0,0,0⟩):=Lib.hid (by simp [bareS])
  rw [HB.out]
  have mk:=mH lits.length hn
  go_enter Try.func49,Try.ntmps49
  go_upto_region 6 with fail
  obtain ⟨b0,b1,b2,hb3,hsz⟩:=three0 w #[.int .i64 2, .int .i64 index, .slice A lits.length c, .int .i64 p, .int .i64 q, .int .i64 var] #[.int .i64 0, .int .i64 0, .slice none 0 0, .int .i64 0, .int .i64 0, .int .i64 0] (rowI (List.replicate lits.length 0)) 91 91 3
  generalize ((w.alloc (.cells #[.int .i64 2, .int .i64 index, .slice A lits.length c, .int .i64 p, .int .i64 q, .int .i64 var] 91)).alloc (.cells #[.int .i64 0, .int .i64 0, .slice none 0 0, .int .i64 0, .int .i64 0, .int .i64 0] 91)).alloc (.cells (rowI (List.replicate lits.length 0)) 3)=W at *
  have HB0:=Lib.hid b0
  have HB1:=Lib.hid b1
  have HB2:=Lib.hid b2
  have HBW:=Lib.hid hb3
  have HSZ:=Lib.hid hsz
  have q2:=b0.cell 2
  simp only [zA,zB,zC] at q2
  clear b0 b1 b2 hb3 hsz mk
  have HZ0:Hid (W.heap[w.heap.size+1+1]? = some (.cells ((List.replicate lits.length (0:Int)).map (Value.int .i64)).toArray 3 (0,0))):=HB2.out
  have HK1:Hid ((lits.map (Value.int .i64)).length=Nat.min lits.length lits.length):=Lib.hid (by simp)
  have HK2:Hid (0<(lits.map (Value.int .i64)).length→some (⟨w.heap.size+1+1,0,none⟩:Addr)=some ⟨w.heap.size+1+1,0,none⟩∧∃ad,A=some ad∧∀j v,(lits.map (Value.int .i64))[j]? = some v→W.cell? (ad.add j)=some v):=by
   refine Lib.hid fun h0=>⟨rfl,?_⟩
   obtain ⟨b,off,e1,_⟩:=HR.out (by simpa using h0)
   exact ⟨_,e1,(HR.out.keep HBW.out).adds _ e1⟩
  have HK3:Hid (0+(lits.map (Value.int .i64)).length≤((List.replicate lits.length (0:Int)).map (Value.int .i64)).length):=Lib.hid (by simp)
  have HON:Hid (∀u∈lits.map (Value.int .i64),u.oneCell'=true):=Lib.hid (fun u hu=>by obtain ⟨x,_,rfl⟩:=List.mem_map.1 hu;rfl)
  go_upto_region 7 with (refine wpList_copy_splice rfl (.tmp 21) (.tmp 23) 33 33 rfl 3 Try.underlying33 (by kernel_rfl) (some ⟨w.heap.size+1+1,0,none⟩) A lits.length lits.length lits.length c rfl rfl (w.heap.size+1+1) 0 ((List.replicate lits.length (0:Int)).map (Value.int .i64)) 3 HZ0.out (lits.map (Value.int .i64)) HK1.out HK2.out HK3.out HON.out (w.heap.size+1+1) W (zM _ _) (Nat.le_refl _) ?_;intro w4 hg4 hb4;have HB4:=Lib.hid hb4;clear hb4)
  rw [splice_all _ _ rfl] at hg4
  have C0:=HB0.out.below HB4.out (by omega)
  have C1:=HB1.out.below HB4.out (by omega)
  have HC2:Hid (Blk w4 (w.heap.size+1+1) 3 (rowI lits)):=hg4
  have HW4:Hid (Below w.heap.size w w4):=Lib.hid (HBW.out.trans (HB4.out.mono (by omega)))
  have r0:=C0.cell 0
  have t0:=C1.cell 0
  have t1:=C1.cell 1
  have t2:=C1.cell 2
  have t3:=C1.cell 3
  have t4:=C1.cell 4
  have t5:=C1.cell 5
  have z0:=C1.frozen 0
  have z1:=C1.frozen 1
  have z2:=C1.frozen 2
  have z3:=C1.frozen 3
  have z4:=C1.frozen 4
  have z5:=C1.frozen 5
  simp only [zA,zB,zC] at r0 t0 t1 t2 t3 t4 t5
  clear q2 HK1 HK2 HK3 HON HZ0 hg4 C0 C1
  go_wp2_with fail
  have hset:w4.grownBy ((((((w4.setCell ⟨w.heap.size+1,0,none⟩ (.int .i64 2)).setCell ⟨w.heap.size+1,1,none⟩ (.int .i64 0)).setCell ⟨w.heap.size+1,2,none⟩ (.slice (some ⟨w.heap.size+1+1,0,none⟩) lits.length lits.length)).setCell ⟨w.heap.size+1,3,none⟩ (.int .i64 0)).setCell ⟨w.heap.size+1,4,none⟩ (.int .i64 0)).setCell ⟨w.heap.size+1,5,none⟩ (.int .i64 0)) (some (w.heap.size+1)):=wX (wX (wX (wX (wX (wP _ _ _ _) (wP _ _ _ _)) (wP _ _ _ _)) (wP _ _ _ _)) (wP _ _ _ _)) (wP _ _ _ _)
  have hC:=HC2.out.grown hset (by simp)
  have hI:=(Blk.ints hC HI.out (by unfold maxLen;omega))
  refine xG (v := .agg #[.int .i64 2, .int .i64 0, .slice (some ⟨w.heap.size+1+1,0,none⟩) lits.length lits.length, .int .i64 0, .int .i64 0, .int .i64 0]) (by simp [results,Try.results49,go_sem,t0,t1,t2,t3,t4,t5]) rfl ⟨_,_,rfl,?_,HW4.out.grown hset HW4.out.size fun g e=>by injection e with e;omega⟩
  exact ⟨_,_,rfl,Nat.le_refl _,by unfold maxLen;omega,HI.out,fun h0=>⟨w.heap.size+1+1,0,rfl,hC.lt,by omega,fun j u hu=>by rw [Nat.zero_add,hC.cell j];simpa [rowI] using hu⟩⟩
 ·have HB:Hid (bareS ⟨3,index,lits,p,q,var⟩ pl=⟨3,0,[],gi pl p,gi pl q,var⟩):=Lib.hid (by simp [bareS])
  rw [HB.out]
  obtain ⟨P,rfl⟩:∃P:Nat,p=P:=⟨p.toNat,by omega⟩
  obtain ⟨Q,rfl⟩:∃Q:Nat,q=Q:=⟨q.toNat,by omega⟩
  have hP:P<pl.length:=by omega
  have hQ:Q<pl.length:=by omega
  obtain ⟨x,hx⟩:∃x,pl[P]? = some x:=⟨_,List.getElem?_eq_getElem hP⟩
  obtain ⟨y,hy⟩:∃y,pl[Q]? = some y:=⟨_,List.getElem?_eq_getElem hQ⟩
  have gx:gi pl (P:Int)=x:=by unfold gi;rw [Int.toNat_natCast,List.getD_eq_getElem?_getD,hx];rfl
  have gy:gi pl (Q:Int)=y:=by unfold gi;rw [Int.toNat_natCast,List.getD_eq_getElem?_getD,hy];rfl
  rw [gx,gy]
  clear gx gy
  obtain ⟨b1,o1,e1,hb1,hc1⟩:=HPR.out.int hx
  obtain ⟨b2,o2,e2,hb2,hc2⟩:=HPR.out.int hy
  subst e1
  injection e2 with e2
  injection e2 with e2 e3 _
  subst e2 e3
  clear hx hy
  go_enter Try.func49,Try.ntmps49
  go_upto_region 8 with fail
  obtain ⟨W,hW⟩:∃W:World,W=(w.alloc (.cells #[.int .i64 3, .int .i64 index, .slice A lits.length c, .int .i64 (P:Int), .int .i64 (Q:Int), .int .i64 var] 91)).alloc (.cells #[.int .i64 0, .int .i64 0, .slice none 0 0, .int .i64 0, .int .i64 0, .int .i64 0] 91):=⟨_,rfl⟩
  have hbw:Below w.heap.size w W:=by rw [hW];exact ((zM _ _).alloc (Nat.le_refl _) _).alloc (by simp) _
  have B0:Blk W w.heap.size 91 #[.int .i64 3, .int .i64 index, .slice A lits.length c, .int .i64 (P:Int), .int .i64 (Q:Int), .int .i64 var]:=by rw [hW];exact (Blk.new _ _ _).alloc _
  have B1:Blk W (w.heap.size+1) 91 #[.int .i64 0, .int .i64 0, .slice none 0 0, .int .i64 0, .int .i64 0, .int .i64 0]:=by
   have h:=Blk.new (w.alloc (.cells #[.int .i64 3, .int .i64 index, .slice A lits.length c, .int .i64 (P:Int), .int .i64 (Q:Int), .int .i64 var] 91)) 91 #[.int .i64 0, .int .i64 0, .slice none 0 0, .int .i64 0, .int .i64 0, .int .i64 0]
   rw [show (w.alloc (.cells #[.int .i64 3, .int .i64 index, .slice A lits.length c, .int .i64 (P:Int), .int .i64 (Q:Int), .int .i64 var] 91)).heap.size=w.heap.size+1 by simp] at h
   rw [hW];exact h
  rw [←hW]
  have k1:W.cell? ⟨b1,o1+P,none⟩=some (.int .i64 x):=(hbw.cell (p:=⟨b1,o1+P,none⟩) hb1).trans hc1
  have k2:W.cell? ⟨b1,o1+Q,none⟩=some (.int .i64 y):=(hbw.cell (p:=⟨b1,o1+Q,none⟩) hb1).trans hc2
  have r0:=B0.cell 0
  have r3:=B0.cell 3
  have r4:=B0.cell 4
  have r5:=B0.cell 5
  have t0:=B1.cell 0
  have t1:=B1.cell 1
  have t2:=B1.cell 2
  have t3:=B1.cell 3
  have t4:=B1.cell 4
  have t5:=B1.cell 5
  have z0:=B1.frozen 0
  have z1:=B1.frozen 1
  have z2:=B1.frozen 2
  have z3:=B1.frozen 3
  have z4:=B1.frozen 4
  have z5:=B1.frozen 5
  simp only [zA,zB,zC] at r0 r3 r4 r5 t0 t1 t2 t3 t4 t5
  have i1:(0:Int)≤(P:Int):=by omega
  have i2:(P:Int)<(pl.length:Int):=by omega
  have i3:(0:Int)≤(Q:Int):=by omega
  have i4:(Q:Int)<(pl.length:Int):=by omega
  have HW:=Lib.hid hbw
  have HB1:=Lib.hid B1
  clear hW hbw B0 B1 hc1 hc2
  go_still_tail 15,(by kernel_rfl)
  change wpList _ _ _ _ _ W.drew
  go_wp2_with fail
  have hset:W.grownBy ((((((W.setCell ⟨w.heap.size+1,0,none⟩ (.int .i64 3)).setCell ⟨w.heap.size+1,1,none⟩ (.int .i64 0)).setCell ⟨w.heap.size+1,2,none⟩ (.slice none 0 0)).setCell ⟨w.heap.size+1,3,none⟩ (.int .i64 x)).setCell ⟨w.heap.size+1,4,none⟩ (.int .i64 y)).setCell ⟨w.heap.size+1,5,none⟩ (.int .i64 var)).drew (some (w.heap.size+1)):=wX (wX (wX (wX (wX (wX (wP _ _ _ _) (wP _ _ _ _)) (wP _ _ _ _)) (wP _ _ _ _)) (wP _ _ _ _)) (wP _ _ _ _)) (pT _ _)
  have B9:Blk (((((((W.setCell ⟨w.heap.size+1,0,none⟩ (.int .i64 3)).setCell ⟨w.heap.size+1,1,none⟩ (.int .i64 0)).setCell ⟨w.heap.size+1,2,none⟩ (.slice none 0 0)).setCell ⟨w.heap.size+1,3,none⟩ (.int .i64 x)).setCell ⟨w.heap.size+1,4,none⟩ (.int .i64 y)).setCell ⟨w.heap.size+1,5,none⟩ (.int .i64 var)).drew) (w.heap.size+1) 91 #[.int .i64 3, .int .i64 0, .slice none 0 0, .int .i64 x, .int .i64 y, .int .i64 var]:=((((((HB1.out.set_ 0 _).set_ 1 _).set_ 2 _).set_ 3 _).set_ 4 _).set_ 5 _).drew
  generalize ((((((W.setCell ⟨w.heap.size+1,0,none⟩ (.int .i64 3)).setCell ⟨w.heap.size+1,1,none⟩ (.int .i64 0)).setCell ⟨w.heap.size+1,2,none⟩ (.slice none 0 0)).setCell ⟨w.heap.size+1,3,none⟩ (.int .i64 x)).setCell ⟨w.heap.size+1,4,none⟩ (.int .i64 y)).setCell ⟨w.heap.size+1,5,none⟩ (.int .i64 var)).drew=W9 at *
  have u0:=B9.cell 0
  have u1:=B9.cell 1
  have u2:=B9.cell 2
  have u3:=B9.cell 3
  have u4:=B9.cell 4
  have u5:=B9.cell 5
  simp only [zA,zB,zC] at u0 u1 u2 u3 u4 u5
  exact xG (v := .agg #[.int .i64 3, .int .i64 0, .slice none 0 0, .int .i64 x, .int .i64 y, .int .i64 var]) (by simp [results,Try.results49,go_sem,u0,u1,u2,u3,u4,u5]) rfl ⟨none,0,rfl,oW _ _,HW.out.grown hset HW.out.size fun g e=>by injection e with e;omega⟩
theorem Refutes.chk {f:Form} {l:List Stp} (h:Refutes f l):chk (gE f [] l) l.length=(0,0):=by
 obtain ⟨cs,hg,h0,hl⟩:=h
 unfold Good at hg
 rw [hg]
 unfold Go.Proofs.Yticieifacalocaa.chk
 rw [if_pos rfl,if_neg (by rw [hl];simp;intro e;rw [e] at h0;simp at h0)]
theorem lP {f:Form} {l:List Stp} (h:(chk (gE f [] l) l.length).2=0):Refutes f l:=by
 cases e:gE f [] l with
 | mk cs b =>
  rw [e] at h
  unfold chk at h
  cases b with
  | false=>simp at h
  | true =>
   rw [if_pos rfl] at h
   split at h
   ·simp at h
   ·rename_i hn
    refine ⟨cs,e,?_,?_⟩
    ·refine Nat.pos_of_ne_zero fun e=>hn (.inl e)
    ·exact qH fun e=>hn (.inr e)
theorem trim_lits {f:Form} {l:List Stp} (h:Refutes f l) {M:Nat} (hl:∀s∈l,s.lits.length≤M):∀s∈oC l,s.lits.length≤M:=by
 obtain ⟨cs,hg, -, -⟩:=h
 intro s hs
 rw [rC hg.back hg.kinds] at hs
 obtain ⟨i,hi,rfl⟩:=List.mem_map.1 hs
 obtain ⟨h1,h2⟩:=ndIx_mem hi
 have hm:l.getD i s0∈l:=by rw [List.getD_eq_getElem?_getD,List.getElem?_eq_getElem h1];exact yQ h1
 have:=hl _ hm
 unfold bareR
 split
 ·simp
 ·split
  ·exact this
  ·simp
def TrimRet (w:World) (f:Form) (l:List Stp) (e:Ending) (w':World):Prop :=
 Below w.heap.size w w'∧((Refutes f l∧∃v ps,e = .returned (.tuple #[v, .bool true])∧ps.map (·.1)=oC l∧OwnStps w' w.heap.size (fun b=>w.heap.size≤b) v ps)∨(¬Refutes f l∧e = .returned (.tuple #[.slice none 0 0, .bool false])))
structure TN (w1 wr:World) (gn:Nat) (n:List Bool):Prop where
 n:Blk wr gn 4 (lH n)
 lo:w1.heap.size≤gn
 bl:Below w1.heap.size w1 wr
theorem TN.set_ {w1 wr:World} {gn:Nat} {n:List Bool} (h:TN w1 wr gn n) (k:Nat) (a:Bool):TN w1 (wr.setCell ⟨gn,k,none⟩ (.bool a)) gn (n.set k a) :=
 ⟨h.n.setB k a,h.lo,h.bl.grown (wP _ _ _ _) h.bl.size fun g e=>by injection e with e;have:=h.lo;omega⟩
structure TR (w1 wr:World) (gn gp:Nat) (n:List Bool) (pl:List Int) (v:Value) (ps:List (Stp × Value)):Prop where
 n:Blk wr gn 4 (lH n)
 p:Blk wr gp 3 (rowI pl)
 os:OwnStps wr (gp+1) (fun b=>gp+1≤b) v ps
 lo:w1.heap.size≤gn
 lt:gn<gp
 hi:gp+1≤wr.heap.size
 bl:Below w1.heap.size w1 wr
section
variable {w1 wr w':World} {gn gp:Nat} {n:List Bool} {pl:List Int} {v:Value} {ps:List (Stp × Value)}
theorem TR.keep (h:TR w1 wr gn gp n pl v ps) (hb:Below wr.heap.size wr w'):TR w1 w' gn gp n pl v ps:=⟨h.n.keep hb,h.p.keep hb,h.os.keep hb,h.lo,h.lt,qA h.hi hb.size,h.bl.trans (hb.mono h.bl.size)⟩
theorem TR.setP (h:TR w1 wr gn gp n pl v ps) (k:Nat) (a:Int):TR w1 (wr.setCell ⟨gp,k,none⟩ (.int .i64 a)) gn gp n (pl.set k a) v ps:=by
 have hs:wr.grownBy (wr.setCell ⟨gp,k,none⟩ (.int .i64 a)) (some gp):=wP _ _ _ _
 have lt:=h.lt
 exact ⟨h.n.grown hs (by simp;omega),h.p.setI k a,h.os.grown hs (bM h.os.1 (by omega)) fun b hb=>by simp;omega,h.lo,h.lt,by simpa using h.hi,h.bl.grown hs h.bl.size fun g e=>by injection e with e;have:=h.lo;omega⟩
theorem TR.push {v' lv:Value} {s:Stp} {o:Obj} (h:TR w1 wr gn gp n pl v ps) (hu:IntsO wr (fun b=>gp+1≤b∧some b≠v.ownBlock) lv s.lits) (hs:s.ok)
  (ho:w'.ownsRow (gp+1) 91 6 v' (ps.length+1) (ps.flatMap Stp.cells++Stp.cells (s,lv))) (hg:(wr.alloc o).grownBy w' v.ownBlock) (hat:v'.ownBlock=v.ownBlock∨v'.ownBlock=some (wr.alloc o).heap.size):TR w1 w' gn gp n pl v' (ps++[(s,lv)]):=by
 have hlt:∀k,v.ownBlock=some k→gp+1≤k∧k<wr.heap.size:=fun k e=>h.os.1.lt k e
 have lt:=h.lt
 have lo:=h.lo
 refine ⟨(h.n.alloc o).grown hg fun e=>by have:=hlt _ e.symm;omega,(h.p.alloc o).grown hg fun e=>by have:=hlt _ e.symm;omega,h.os.push hu hs ho hg hat,h.lo,h.lt,?_,(h.bl.alloc h.bl.size o).grown hg (by have:=h.bl.size;simp;omega) fun k e=>by have:=hlt k e;omega⟩
 have h1:=hg.size;have h2:=h.hi;simp at h1;omega
end
theorem mX (l:List Stp) (n:List Bool) (k:Nat):(dE l n k).2.length≤k∧∀x∈(dE l n k).1,0≤x∧x≤(k:Int):=by
 induction k with
 | zero=>exact ⟨by simp [dE],fun x hx=>by rw [dE] at hx;rw [List.eq_of_mem_replicate hx];simp⟩
 | succ k ih =>
  rw [dE]
  split
  ·refine ⟨by simp;exact ih.1,fun x hx => ?_⟩
   rcases xL hx with h|rfl
   ·have:=ih.2 x h;omega
   ·have:=ih.1;omega
  ·exact ⟨by have:=ih.1;omega,fun x hx=>by have:=ih.2 x hx;omega⟩
theorem bareS_ok {s:Stp} {pl:List Int} (hs:s.ok) (hp:∀x∈pl,I64 x):(bareS s pl).ok:=by
 have h0:I64 0:=by constructor<;>omega
 have hg:∀i,I64 (gi pl i):=fun i=>by
  unfold gi
  rw [List.getD_eq_getElem?_getD]
  cases e:pl[i.toNat]? with
  | none=>exact h0
  | some x=>exact hp x (List.mem_of_getElem? e)
 obtain ⟨h1,h2,h3,h4,h5⟩:=hs
 unfold bareS
 split
 ·exact ⟨h1,h2,h0,h0,h0⟩
 ·split
  ·exact ⟨h1,h0,h0,h0,h0⟩
  ·exact ⟨h1,h0,hg _,hg _,h5⟩
theorem owns_base6 {w:World} {base base' n k:Nat} {e:TypeId} {v:Value} {xs:List Value} (h:w.ownsRow base e k v n xs) (hb:base'≤base):w.ownsRow base' e k v n xs:=by
 refine ⟨h.1,?_⟩
 rcases h.2 with hn|⟨g,cap,cur,rfl,hg,rest⟩
 ·exact .inl hn
 ·exact .inr ⟨g,cap,cur,rfl,by omega,rest⟩
theorem ret_i {a b:Int} (h:a=b):Value.int .i64 a = .int .i64 b:=by rw [h]
end Go.Proofs.Yticieifacalocaa
