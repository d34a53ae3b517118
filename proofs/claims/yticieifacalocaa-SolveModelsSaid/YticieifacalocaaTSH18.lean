/- SolInst -/
import Derived.Test.YticieifacalocaaTSH17
namespace Go.Proofs.Yticieifacalocaa
section
variable {f fc:Form} {B N h:Nat} {Lo:Int}
theorem topF_ok (lvl:List Int):∀(n i:Nat) (cl:List Int) (level:Int),1≤i→i+n=cl.length→0≤level→(∀j,1≤j→j<i→lvl.getD (vr (cl.getD j 0)) 0≤level)→(1<i→lvl.getD (vr (cl.getD 1 0)) 0=level)→(i=1→level=0)→(∀j,i≤j→j<cl.length→0<lvl.getD (vr (cl.getD j 0)) 0) →
  ∃cl2 lev2,topF lvl (List.range' i n) cl level=(cl2,lev2)∧cl2.Perm cl∧cl2.getD 0 0=cl.getD 0 0∧0≤lev2∧(∀j,1≤j→j<cl2.length→lvl.getD (vr (cl2.getD j 0)) 0≤lev2)∧(1<cl2.length→lvl.getD (vr (cl2.getD 1 0)) 0=lev2)∧(cl2.length=1→lev2=0):=by
 intro n
 induction n with
 | zero =>
  intro i cl level h1 h2 h3 h4 h5 h6 _
  exact ⟨cl,level,rfl,uC _,rfl,h3,fun j a b=>h4 j a (by omega),fun a=>h5 (by omega),fun a=>h6 (by omega)⟩
 | succ n ih =>
  intro i cl level h1 h2 h3 h4 h5 h6 h7
  rw [List.range'_succ,topF]
  have hi:=h7 i (Nat.le_refl _) (by omega)
  have hl1:1<cl.length:=by omega
  by_cases hc:level<lvl.getD (vr (cl.getD i 0)) 0
  ·rw [if_pos hc]
   have hg:∀k,(swp cl 1 i).getD k 0=if k=i then cl.getD 1 0 else if k=1 then cl.getD i 0 else cl.getD k 0:=fun k=>swp_get hl1 (by omega) k
   obtain ⟨cl2,lev2,q1,q2,q3,q4⟩:=ih (i+1) (swp cl 1 i) (lvl.getD (vr (cl.getD i 0)) 0) (by omega) (by rw [cH];omega) (by omega) (fun j a b=>by
     rw [hg]
     by_cases e1:j=i
     ·rw [if_pos e1]
      by_cases e2:i=1
      ·rw [e2];exact yM _
      ·rw [h5 (by omega)];omega
     ·rw [if_neg e1]
      by_cases e2:j=1
      ·rw [if_pos e2];exact yM _
      ·rw [if_neg e2];have:=h4 j a (by omega);omega) (fun _=>by
     rw [hg]
     by_cases e1:1=i
     ·rw [if_pos e1,e1]
     ·rw [if_neg e1,if_pos rfl]) (fun e=>by omega) (fun j a b=>by
     rw [cH] at b
     rw [hg,if_neg (by omega),if_neg (by omega)]
     exact h7 j (by omega) b)
   exact ⟨cl2,lev2,q1,q2.trans (eR hl1 (by omega)),by rw [q3,hg,if_neg (by omega),if_neg (by omega)],q4⟩
  ·rw [if_neg hc]
   have hi1:i≠1:=fun e=>by have:=h6 e;omega
   exact ih (i+1) cl level (by omega) (by omega) h3 (fun j a b=>by
    by_cases e:j=i
    ·subst e;omega
    ·exact h4 j a (by omega)) (fun _=>h5 (by omega)) (fun e=>by omega) (fun j a b=>h7 j (by omega) b)
theorem undo_wat (f:Form) (w:Int→List Nat):∀(l:List Int) (s:Sol),l.foldlM (fun s lit=>if undoOk f s lit=true then some (undoF f s lit) else none) { s with e:={ s.e with wat:=w } } =
  (l.foldlM (fun s lit=>if undoOk f s lit=true then some (undoF f s lit) else none) s).map fun r=>{ r with e:={ r.e with wat:=w } }:=by
 intro l
 induction l with
 | nil=>intro s;rfl
 | cons x l ih =>
  intro s
  rw [qW,qW]
  have:undoOk f { s with e:={ s.e with wat:=w } } x=undoOk f s x:=rfl
  rw [this]
  by_cases h:undoOk f s x=true
  ·rw [if_pos h,if_pos h]
   exact ih (undoF f s x)
  ·rw [if_neg h,if_neg h];rfl
theorem back_wat (f:Form) (s:Sol) (w:Int→List Nat) (level:Nat):backF f { s with e:={ s.e with wat:=w } } level=(backF f s level).map fun r=>{ r with e:={ r.e with wat:=w } }:=by
 unfold backF
 by_cases h:s.e.st.length≤level
 ·rw [if_pos h,if_pos h];rfl
 ·rw [if_neg h,if_neg h]
  simp only
  by_cases h2:s.e.st.getD level 0≤s.e.tr.length
  ·rw [if_pos h2,if_pos h2,undo_wat]
   cases (s.e.tr.drop (s.e.st.getD level 0)).reverse.foldlM (fun s lit=>if undoOk f s lit=true then some (undoF f s lit) else none) s with
   | none=>rfl
   | some r=>rfl
  ·rw [if_neg h2,if_neg h2];rfl
theorem EngI.assert {e:Eng} (hi:EngI fc B e e.hd) (hhd:e.hd=e.tr.length) {c:Nat} (hc:c<e.cls.length) (hnew:∀l,c∉e.wat l) (hun:e.g0 c∉e.tr ∧ -e.g0 c∉e.tr) (h0:0<(e.cl c).length) (hrest:∀x∈e.cl c,x≠e.g0 c → -x∈e.tr)
  (hlast:1<(e.cl c).length→∀s∈e.st, -e.g1 c∉e.tr.take s) :
  EngI fc B ((if 1<(e.cl c).length then e.attach c else e).assign (e.g0 c) c) e.hd:=by
 have hfc:=hi.c c hc
 have hl0:litB B (e.g0 c)=true:=hfc.1 _ (getD_mem h0)
 have htv:tv e.val (e.g0 c)=0:=(hi.t.none_ hl0).2 hun
 generalize hw:(if 1<(e.cl c).length then e.attach c else e)=e1
 have hcls:e1.cls=e.cls:=by rw [←hw];split<;>rfl
 have htr:e1.tr=e.tr:=by rw [←hw];split<;>rfl
 have hst:e1.st=e.st:=by rw [←hw];split<;>rfl
 have hhd1:e1.hd=e.hd:=by rw [←hw];split<;>rfl
 have hval:e1.val=e.val:=by rw [←hw];split<;>rfl
 have hrsn:e1.rsn=e.rsn:=by rw [←hw];split<;>rfl
 have hlvl:e1.lvl=e.lvl:=by rw [←hw];split<;>rfl
 have hinp:e1.inp=e.inp:=by rw [←hw];split<;>rfl
 have hcl:∀d,e1.cl d=e.cl d:=fun d=>by unfold Eng.cl;rw [hcls]
 have ht1:TrI B e1:=⟨by rw [hval];exact hi.t.vl,by rw [hrsn];exact hi.t.rl,by rw [hlvl];exact hi.t.ll,by rw [hval];exact hi.t.v3,by rw [htr];exact hi.t.lits,by rw [htr];exact hi.t.nd,by rw [htr,hval];exact hi.t.tr⟩
 have hg:Grow e (e1.assign (e.g0 c) c):=by
  have h1:=cY hi.t hl0 htv hc (getD_mem h0) hrest
  refine ⟨by show e1.cls.length=_;rw [hcls],fun d=>by show (e1.cl d).Perm _;rw [hcl],hinp,hst,hhd1,by show ∃m,e1.tr++[e.g0 c]=_;rw [htr];exact ⟨_,rfl⟩,fun l hl => ?_,fun p l hp hl => ?_⟩
  ·show (e1.rsn.set _ _).getD _ 0=_∧(e1.lvl.set _ _).getD _ 0=_
   rw [hrsn,hlvl,hst];exact h1.old l hl
  ·have hl2:(e.tr++[e.g0 c])[p]? = some l:=by rw [←htr];exact hl
   obtain ⟨a1,d,a2,a3,a4,a5⟩:=h1.new p l hp hl2
   refine ⟨?_,d,?_,a3,a4,fun x hx hne => ?_⟩
   ·show (e1.lvl.set _ _).getD _ 0=_
    rw [hlvl,hst];exact a1
   ·show (e1.rsn.set _ _).getD _ 0=_
    rw [hrsn];exact a2
   ·show -x∈(e1.tr++[e.g0 c]).take p
    rw [htr];exact a5 x hx hne
 have hmem:∀l d,d≠c→(d∈e1.wat l↔d∈e.wat l):=fun l d hd=>by
  rw [←hw]
  split
  ·show d∈upd (upd e.wat _ _) _ _ l↔_
   rw [wT,wT]
   split
   ·rename_i e2
    subst e2
    rw [zK,zH]
    show (d∈upd e.wat _ _ _∨_)↔_
    rw [wT]
    split
    ·rename_i e3
     rw [←e3,zK,zH]
     exact ⟨fun h=>h.elim (fun h=>h.elim id fun h=>absurd h hd) fun h=>absurd h hd,fun h => .inl (.inl h)⟩
    ·exact ⟨fun h=>h.elim id fun h=>absurd h hd, .inl⟩
   ·split
    ·rename_i e3
     subst e3
     rw [zK,zH]
     exact ⟨fun h=>h.elim id fun h=>absurd h hd, .inl⟩
    ·exact jQ
  ·exact jQ
 have hmemc:∀l,c∈e1.wat l↔1<(e.cl c).length∧(l=e.g0 c∨l=e.g1 c):=fun l=>by
  rw [←hw]
  by_cases h1:1<(e.cl c).length
  ·rw [if_pos h1]
   show c∈upd (upd e.wat _ _) _ _ l↔_
   rw [wT,wT]
   by_cases e2:l=(e.cl c).getD 1 0
   ·rw [if_pos e2]
    exact ⟨fun _=>⟨h1, .inr e2⟩,fun _=>by simp⟩
   ·rw [if_neg e2]
    by_cases e3:l=(e.cl c).getD 0 0
    ·rw [if_pos e3]
     exact ⟨fun _=>⟨h1, .inl e3⟩,fun _=>by simp⟩
    ·rw [if_neg e3]
     exact ⟨fun h=>absurd h (hnew l),fun h=>h.2.elim (fun h=>absurd h e3) fun h=>absurd h e2⟩
  ·rw [if_neg h1]
   exact ⟨fun h=>absurd h (hnew l),fun h=>absurd h.1 h1⟩
 have hg0:∀d,(e1.assign (e.g0 c) c).g0 d=e.g0 d:=fun d=>by show (e1.cl d).getD 0 0=_;rw [hcl];rfl
 have hg1:∀d,(e1.assign (e.g0 c) c).g1 d=e.g1 d:=fun d=>by show (e1.cl d).getD 1 0=_;rw [hcl];rfl
 have hnd:∀l,(e1.wat l).Nodup:=fun l=>by
  rw [←hw]
  split
  ·rename_i h1
   have h01:e.g0 c≠e.g1 c:=hfc.ne h0 h1 (by omega)
   show (upd (upd e.wat _ _) _ _ l).Nodup
   rw [wT,wT]
   have app:∀m:List Nat,m.Nodup→c∉m→(m++[c]).Nodup:=fun m a b=>by
    rw [qG]
    refine ⟨a,by simp,fun x hx y hy e2 => ?_⟩
    rw [zH] at hy
    subst hy e2
    exact b hx
   split
   ·rename_i e2
    have:(e.watch ((e.cl c).getD 0 0) c).wat ((e.cl c).getD 1 0)=e.wat ((e.cl c).getD 1 0):=by
     show upd e.wat _ _ _=_
     rw [wT,if_neg (fun e3=>h01 e3.symm)]
    rw [this]
    exact app _ (hi.w.w4 _) (hnew _)
   ·split
    ·exact app _ (hi.w.w4 _) (hnew _)
    ·exact hi.w.w4 l
  ·exact hi.w.w4 l
 refine ⟨ht1.assign hl0 (by rw [hval];exact htv),fun d hd => ?_,hi.l.grow hg,⟨fun l d hd => ?_,fun d hd => ?_,hnd⟩,?_,hi.r.grow hg⟩
 ·show Fine B (e1.cl d)
  rw [hcl];exact hi.c d (by rw [←hcls];exact hd)
 ·have hd':d∈e1.wat l:=hd
  show d<e1.cls.length∧2≤(e1.cl d).length∧(l=_∨l=_)∧d∈e1.wat _∧d∈e1.wat _
  rw [hcls,hcl,hg0,hg1]
  by_cases e2:d=c
  ·subst e2
   obtain ⟨b1,b2⟩:=(hmemc l).1 hd'
   exact ⟨hc,b1,b2,(hmemc _).2 ⟨b1, .inl rfl⟩,(hmemc _).2 ⟨b1, .inr rfl⟩⟩
  ·rw [hmem _ _ e2,hmem _ _ e2]
   exact hi.w.w1 l d ((hmem l d e2).1 hd')
 ·rw [hg0] at hd
  rw [hg0,hg1]
  have hd':d∈e1.wat (e.g0 d):=hd
  by_cases e2:d=c
  ·subst e2
   have h1:=((hmemc _).1 hd').1
   have htake:∀j,j≤e.tr.length→(e1.assign (e.g0 d) d).tr.take j=e.tr.take j:=fun j hj=>hg.take hj
   constructor
   ·intro hm
    rw [htake _ (by omega)] at hm
    exact absurd (zN hm) hun.2
   ·intro hm
    refine ⟨by show e.g0 d∈e1.tr++[e.g0 d];simp,fun s hs hm2 => ?_⟩
    have hs':s∈e.st:=by rw [←hst];exact hs
    rw [htake _ (by have:=(hi.l.sl s hs').1;omega)] at hm2
    exact absurd hm2 (hlast h1 s hs')
  ·obtain ⟨a1,a2⟩:=hi.w.w3 d ((hmem _ d e2).1 hd')
   have hs:∀s∈e.st,s≤e.tr.length:=fun s hs=>by have:=(hi.l.sl s hs).1;omega
   exact ⟨a1.grow hg (by omega) hs,a2.grow hg (by omega) hs⟩
 ·refine hi.i.grow hi.l hg fun d hd => ?_
  rw [hg0]
  show d∈e1.wat _
  by_cases e2:d=c
  ·subst e2;exact absurd hd (hnew _)
  ·exact (hmem _ d e2).2 hd
structure LearnR (f fc:Form) (B N:Nat) (s:Sol) (Lo:Int) (s2:Sol):Prop where
 i:SolI f fc B N s2 s2.e.hd Lo
 bk:∃level first l,s.e.st[level]? = some first∧s2.e.st=s.e.st.take level∧s2.e.hd=first∧s2.e.tr=s.e.tr.take first++[l]
 cnt:s2.e.cls.length+unitsOf s≤s.e.cls.length+1+unitsOf s2
 rst:s2.rst=s.rst
theorem learnF_ok (hq:SolQ f B N) {s:Sol} (hs:SolI f fc B N s h Lo) (hh:∀s'∈s.e.st,s'≤h) (hne:s.e.st≠[]) {c:Nat} (hc:c<s.e.cls.length) (hfalse:∀x∈s.e.cl c, -x∈s.e.tr) (hcur:∃x∈s.e.cl c,∃p,s.e.tr[p]? = some (-x)∧∀s'∈s.e.st,s'≤p)
  (hlim:s.e.cls.length+B+2<LIM+unitsOf s) {fuel:Nat} (hfu:B<fuel):∃s2,learnF fuel f s c=some s2∧LearnR f fc B N s Lo s2:=by
 have hbl:=hq.bl
 have hBt:=hs.g.t.len
 have hul:=gW hs.d
 have hfc:=hs.g.c c hc
 have hfl:=fine_len hfc
 have hnd:=aE hs.g.t.nd
 obtain ⟨sL,hsL⟩:∃sL,sL∈s.e.st∧∀s'∈s.e.st,s'≤sL:=by
  refine ⟨s.e.st.getLast hne,List.getLast_mem hne,fun s' h' => ?_⟩
  have hsp:=hs.g.l.sp
  obtain ⟨i,hi,e1⟩:=qL h'
  rw [uJ hne,←e1]
  rw [qM] at hsp
  by_cases e2:i=s.e.st.length-1
  ·subst e2;exact Nat.le_refl _
  ·exact uN (hsp i (s.e.st.length-1) hi (by omega) (by omega))
 have hsLt:sL<s.e.tr.length:=(hs.g.l.sl sL hsL.1).1
 have hz:∀i,(List.replicate s.e.val.length false).getD i false=false:=fun i=>by
  rw [List.getD_eq_getElem?_getD,List.getElem?_replicate];split<;>rfl
 have hstart:LrnI B s.e sL s.e.tr.length ⟨s.acty,List.replicate s.e.val.length false,[],[],0⟩:=by
  refine ⟨by simp [hs.g.t.vl],hs.d.al,?_,by simp,by simp,fun z => ?_,fun z => ?_⟩
  ·show (0:Int)=(cnt _ _ _ _:Int)
   unfold cnt
   rw [jH.2 fun x _=>by simp only [hz];simp];rfl
  ·simp only [hz];simp
  ·simp only [hz];simp
 obtain ⟨a1,a2⟩:=LrnI.all hs.g.t hs.g.l hsL (s.e.cl c) _ hstart (fun x hx => .inl (by rw [yC];exact hfalse x hx))
 simp only [hz] at a2
 generalize hp0:wE s.e.lvl s.e.st.length ⟨s.acty,List.replicate s.e.val.length false,[],[],0⟩ (s.e.cl c)=p0 at a1 a2
 have hseen:∀v,p0.seen.getD v false=true↔v∈(s.e.cl c).map vr:=fun v=>by rw [a2];simp
 have hf1:=gJ hbl hfc
 have hopn:1≤p0.opn:=by
  rw [a1.op]
  obtain ⟨x,hx,p,hp,hps⟩:=hcur
  have hle:=hps sL hsL.1
  unfold cnt
  have:0<((s.e.tr.take s.e.tr.length).drop sL).countP fun l=>p0.seen.getD (vr l) false:=by
   rw [List.countP_pos_iff]
   refine ⟨-x,List.mem_of_getElem? (i:=p-sL) ?_,?_⟩
   ·rw [yW,yC,show sL+(p-sL)=p by omega];exact hp
   ·rw [vr_neg];exact (hseen _).2 (List.mem_map.2 ⟨x,hx,rfl⟩)
  omega
 obtain ⟨k,p,ch,cur,q1,q2,q3,q4,q5,q6,q7,q8,q9,q10,q11⟩:=scanF_ok hq hs.g hsL (n0:=s.e.nmc c) s.e.tr.length p0 [] (s.e.nmc c) (Nat.le_refl _) a1 hopn rfl hf1.2.1 (fun z=>by
  rw [hseen,yC]
  constructor
  ·intro hm
   have:=(hf1.2.2 z).1 hm
   exact ⟨hfalse z this,List.mem_map.2 ⟨z,this,rfl⟩⟩
  ·rintro ⟨b1,b2⟩
   obtain ⟨x,hx,e1⟩:=List.mem_map.1 b2
   have:=dD hs.g.t.nd b1 (hfalse x hx) (by rw [vr_neg,vr_neg];exact e1.symm)
   have:z=x:=by omega
   subst this
   exact (hf1.2.2 z).2 hx) (by intro k hk;simp at hk) (by simp)
 obtain ⟨t,ht⟩:∃t,s.e.tr[k]? = some t:=⟨_,List.getElem?_eq_getElem q3⟩
 have htg:s.e.tr.getD k 0=t:=by rw [List.getD_eq_getElem?_getD,ht];rfl
 rw [htg] at q6
 have htm:=List.mem_of_getElem? ht
 have htl:=hs.g.t.lits t htm
 have hcz:cnt s.e.tr p.seen sL k=0:=by
  have h1:=q4.op
  have h2:=pM p.seen q2 ht
  rw [if_pos q6] at h2
  omega
 have hnos:∀q x,s.e.tr[q]? = some x→sL≤q→q<k→p.seen.getD (vr x) false=false:=fun q x hx h1 h2=>by
  unfold cnt at hcz
  rw [jH] at hcz
  have:=hcz x (List.mem_of_getElem? (i:=q-sL) (by rw [yW,show sL+(q-sL)=q by omega,qX,if_pos h2];exact hx))
  simpa using this
 have hposf:∀x∈p.fixed,∃q,s.e.tr[q]? = some (-x)∧∀s'∈s.e.st,q<s':=fun x hx=>by
  obtain ⟨b1,b2,b3⟩:=(q4.fm x).1 hx
  obtain ⟨q,hq1⟩:=qV b1
  exact ⟨q,hq1,fun s' h'=>(gX hnd hq1).1 (b3 s' h')⟩
 have hcurz:∀z∈cur,litB B z=true ∧ -z∉cur:=fun z hz=>by
  have h1:=zN ((q9 z).1 hz).1
  refine ⟨by rw [←bL];exact hs.g.t.lits _ h1,fun h2 => ?_⟩
  have h3:=zN ((q9 _).1 h2).1
  rw [yJ] at h3
  exact hs.g.t.not_both h3 h1
 have hs0:SolI f fc B N { s with acty:=p.acty } h Lo:=⟨hs.g,hs.t,⟨hs.d.ol,hs.d.dv,hs.d.ul,q4.al,hs.d.un⟩⟩
 have hflen:p.fixed.length≤B:=by
  have:=bX (N:=B) q4.fn (fun v hv=>by
   obtain ⟨x,hx,rfl⟩:=List.mem_map.1 hv
   have:=hs.g.t.lits _ ((q4.fm x).1 hx).1
   rw [←vr_neg];exact (wD.1 this).2)
  simpa using this
 obtain ⟨s1,ch2,cur2,u1,u2,u3,u4,u5,u6,u7,u8⟩:=nF hq (fuel:=fuel) (n0:=s.e.nmc c) p.fixed { s with acty:=p.acty } ch cur hs0 hfu (aE q4.fn) hposf (fun x hx=>by
   obtain ⟨b1,b2,b3⟩:=(q4.fm x).1 hx
   obtain ⟨q,hq1,hq2⟩:=hposf x hx
   exact (q9 x).2 ⟨bI hq1 (by have:=hq2 sL hsL.1;omega),b2⟩) hcurz q8 q7 q10 (by omega) (by show s.e.cls.length+B<LIM+unitsOf s;omega)
 have hcl:∀z,z ∈ -t::p.clause↔z∈cur2:=by
  intro z
  rw [u6,q9,zV,q4.cm,q4.fm]
  constructor
  ·rintro (rfl|⟨b1,b2,b3⟩)
   ·refine ⟨⟨by rw [yJ];exact bI ht (by omega),by rw [vr_neg];exact q6⟩,fun hx => ?_⟩
    have:=hx.2.2 sL hsL.1
    rw [yJ] at this
    have:=(gX hnd ht).1 this
    omega
   ·obtain ⟨q,hq1⟩:=qV (zN b1)
    have:=(gX hnd hq1).1 b1
    refine ⟨⟨bI hq1 (by omega),b2⟩,fun hx => ?_⟩
    obtain ⟨s',h1,h2⟩:=b3
    exact h2 (hx.2.2 s' h1)
  ·rintro ⟨⟨b1,b2⟩,b3⟩
   have hzt:=zN b1
   obtain ⟨q,hq1⟩:=qV hzt
   have hqk:=(gX hnd hq1).1 b1
   by_cases e1:q=k
   ·subst e1
    rw [ht] at hq1
    injection hq1 with hq1
    left;omega
   ·right
    have hqs:q<sL:=by
     apply qF
     intro hcc
     have:=hnos q _ hq1 (by omega) (by omega)
     rw [vr_neg,b2] at this
     cases this
    refine ⟨bI hq1 hqs,b2,?_⟩
    apply qF
    intro hcc
    exact b3 ⟨hzt,b2,fun s' h'=>qF fun hh=>hcc ⟨s',h',hh⟩⟩
 have hfine:Fine B (-t::p.clause):=by
  refine ⟨fun z hz=>(hcurz z ((u6 z).1 ((hcl z).1 hz)).1).1,?_⟩
  rw [qC,yU]
  refine ⟨fun hm => ?_,q4.cn⟩
  obtain ⟨z,hz,e1⟩:=List.mem_map.1 hm
  have h1:=((q4.cm z).1 hz).1
  have h2:=dD hs.g.t.nd (zN h1) htm (by rw [vr_neg,e1,vr_neg])
  rw [h2] at h1
  have:=(gX hnd ht).1 h1
  omega
 have hrestp:∀z∈p.clause,∃q,s.e.tr[q]? = some (-z)∧q<sL∧s.e.lvl.getD (vr z) 0=levAt s.e.st q∧0<levAt s.e.st q∧levAt s.e.st q<s.e.st.length:=fun z hz=>by
  obtain ⟨b1,b2,b3⟩:=(q4.cm z).1 hz
  obtain ⟨q,hq1⟩:=qV (zN b1)
  have hlt:=(gX hnd hq1).1 b1
  have hlv:=hs.g.l.lv q _ hq1
  rw [vr_neg] at hlv
  refine ⟨q,hq1,hlt,hlv,?_,?_⟩
  ·obtain ⟨s',h1,h2⟩:=b3
   refine Nat.pos_of_ne_zero fun e1=>h2 ?_
   unfold levAt at e1
   rw [vH,vM] at e1
   exact bI hq1 (by simpa using e1 s' h1)
  ·have h1:levAt s.e.st q≤s.e.st.length:=xD _ _
   refine Nat.lt_of_le_of_ne h1 fun e1 => ?_
   have:=kB.1 (kZ (vX (l:=s.e.st)) e1) sL hsL.1
   simp at this;omega
 have hlvl1:s1.e.lvl=s.e.lvl:=by obtain ⟨m,hm⟩:=u3.e;rw [hm]
 have htr1:s1.e.tr=s.e.tr:=u3.tr
 have hst1:s1.e.st=s.e.st:=u3.st
 obtain ⟨C,lev,y1,y2,y3,y4,y5,y6,y7⟩:=topF_ok s.e.lvl p.clause.length 1 (-t::p.clause) 0 (Nat.le_refl _) (by simp;omega) (yM _) (fun j a b=>by omega) (fun a=>by omega) (fun _=>rfl) (fun j a b=>by
  obtain ⟨j,rfl⟩:∃i,j=i+1:=⟨j-1,by omega⟩
  rw [List.getD_cons_succ]
  have hjm:p.clause.getD j 0∈p.clause:=getD_mem (by simpa using b)
  obtain ⟨q,_,_,e1,e2,_⟩:=hrestp _ hjm
  omega)
 have hCf:=hfine.perm y2
 have hClen:C.length=p.clause.length+1:=by rw [y2.length_eq];simp
 have hC0:C.getD 0 0 = -t:=by rw [y3];rfl
 have hCrest:∀x∈C,x ≠ -t→x∈p.clause:=fun x hx hne=>by
  rcases zV.1 (y2.mem_iff.1 hx) with e1|e1
  ·exact absurd e1 hne
  ·exact e1
 have hClev:∀x∈p.clause,s.e.lvl.getD (vr x) 0≤lev:=fun x hx=>by
  obtain ⟨j,hj,e1⟩:=mem_get (y2.mem_iff.2 (jC _ hx))
  by_cases h0:j=0
  ·subst h0
   rw [hC0] at e1
   exfalso
   have:=hfine.2
   rw [qC,yU] at this
   exact this.1 (by rw [e1];exact List.mem_map.2 ⟨x,hx,rfl⟩)
  ·have:=y5 j (by omega) hj
   rw [e1] at this;exact this
 have hlevlt:lev.toNat<s.e.st.length:=by
  by_cases h1:1<C.length
  ·have h2:=y6 h1
   have hm:C.getD 1 0∈p.clause:=hCrest _ (getD_mem h1) (by rw [←hC0];exact hCf.ne h1 (by omega) (by omega))
   obtain ⟨q,_,_,e1,e2,e3⟩:=hrestp _ hm
   omega
  ·rw [y7 (by omega)]
   exact jJ.2 hne
 obtain ⟨first,hfirst⟩:∃first,s.e.st[lev.toNat]? = some first:=⟨_,List.getElem?_eq_getElem hlevlt⟩
 have hlim1:s1.e.cls.length<LIM:=by have:=u3.cnt;have:=gW u2.d;simp only [unitsOf] at *;omega
 have hadd:s1.addF C ⟨wF,c,ch2⟩=some { s1 with e:=s1.e.push C,org:=s1.org++[⟨wF,c,ch2⟩] }:=by
  unfold Sol.addF
  rw [if_pos ⟨hlim1,by rw [u2.d.ol];exact hlim1⟩]
  rfl
 have hc1:c<s1.e.cls.length:=zZ hc u3.len
 have hpcl:∀d,d<s1.e.cls.length→(s1.e.push C).cl d=s1.e.cl d:=fun d hd=>by rw [s1.e.push_cl,if_neg (by omega)]
 have hnew:(s1.e.push C).cl s1.e.cls.length=C:=by rw [s1.e.push_cl,if_pos rfl]
 have hder:DerOk f B (s1.e.push C).nmc s1.e.cls.length ⟨wF,c,ch2⟩:=by
  refine ⟨.inl rfl,fun h=>absurd h (by simp [wF]),fun h=>absurd h (by simp [wF]),fun _ => ?_,fun _=>hc1,u7,u8,fun h=>absurd rfl h,by simp [wF],by simp [wF],by simp [wF],by simp [wF],rfl,rfl,rfl⟩
  show gC _ (nm ((s1.e.push C).cl c)) ch2=some (nm ((s1.e.push C).cl s1.e.cls.length))
  rw [hnew,hpcl c hc1,u3.cl hc,dB (nmc:=s1.e.nmc) (n:=s1.e.cls.length) (fun k hk=>by show nm _=nm _;rw [hpcl k hk]) (fun k hk=>(u7 k hk).1)]
  rw [show nm (({ s with acty:=p.acty }:Sol).e.cl c)=s.e.nmc c from rfl,u4]
  congr 1
  exact nm_eq u5 (fun z=>by rw [←hcl];exact y2.mem_iff.symm) hbl hCf
 have hs3:SolI f fc B N { s1 with e:=s1.e.push C,org:=s1.org++[⟨wF,c,ch2⟩] } h Lo:=⟨u2.g.push hCf,u2.t,u2.d.push hder⟩
 obtain ⟨s4,b1,b2,b3,b4,b5,b6,b7,b8,b9,b10,b11,b12⟩:=oN hq hs3 (by show ∀s'∈s1.e.st,s'≤h;rw [hst1];exact hh) (level:=lev.toNat) (first:=first) (by show s1.e.st[lev.toNat]? = _;rw [hst1];exact hfirst)
 have b4':s4.e.tr=s.e.tr.take first:=by rw [b4];show s1.e.tr.take first=_;rw [htr1]
 have b5':s4.e.st=s.e.st.take lev.toNat:=by rw [b5];show s1.e.st.take _=_;rw [hst1]
 have b6':s4.e.cls=(s1.e.push C).cls:=b6
 have hcl4:∀d,s4.e.cl d=(s1.e.push C).cl d:=fun d=>by unfold Eng.cl;rw [b6']
 have hfm:=List.mem_of_getElem? hfirst
 have hfsl:=hsL.2 first hfm
 have hgl:=hs.g.l.sl first hfm
 obtain ⟨st1,st2⟩:=iT hs.g.l.sp hfirst
 have hn4:s4.e.cls.length=s1.e.cls.length+1:=by rw [b6',s1.e.push_len]
 have hg0:s4.e.g0 s1.e.cls.length = -t:=by unfold Eng.g0;rw [hcl4,hnew];exact hC0
 have hnotk:t∉s.e.tr.take first:=fun hm=>by have:=(gX hnd ht).1 hm;omega
 have hE:=EngI.assert b2.g (by rw [b3,b4',qO];omega) (c:=s1.e.cls.length) (by omega) (fun l hm=>by
   rw [b7] at hm
   have:=(u2.g.w.w1 l _ hm).1
   omega) (by
   rw [hg0,b4',yJ]
   refine ⟨fun hm => ?_,hnotk⟩
   exact hs.g.t.not_both htm (zN hm)) (by rw [hcl4,hnew];omega) (fun x hx hne=>by
   rw [hcl4,hnew] at hx
   rw [hg0] at hne
   have hxm:=hCrest x hx hne
   obtain ⟨q,hq1,hq2,e1,e2,e3⟩:=hrestp x hxm
   rw [b4']
   refine bI hq1 ?_
   apply qF
   intro hcc
   have h1:=hClev x hxm
   have h2:lev.toNat<levAt s.e.st q:=by
    have hsub:(s.e.st.take (lev.toNat+1)).length≤levAt s.e.st q:=by
     unfold levAt
     have:(s.e.st.take (lev.toNat+1)).filter (fun s'=>decide (s'≤q))=s.e.st.take (lev.toNat+1):=by
      rw [kB]
      intro s' h'
      rw [xI,hfirst] at h'
      rcases zK.1 h' with h'|h'
      ·have:=st1 s' h';simp;omega
      ·simp at h';simp;omega
     rw [←this]
     exact (List.Sublist.filter _ (kN _ _)).length_le
    rw [qO] at hsub
    omega
   omega) (fun h1 s' h'=>by
   rw [hcl4,hnew] at h1
   rw [b5'] at h'
   have hlt:=st1 s' h'
   rw [b4',yY,yG (by omega)]
   have hg1:s4.e.g1 s1.e.cls.length=C.getD 1 0:=by unfold Eng.g1;rw [hcl4,hnew]
   rw [hg1]
   intro hm
   have hxm:C.getD 1 0∈p.clause:=hCrest _ (getD_mem h1) (by rw [←hC0];exact hCf.ne h1 (by omega) (by omega))
   obtain ⟨q,hq1,hq2,e1,e2,e3⟩:=hrestp _ hxm
   have hqs:=(gX hnd hq1).1 hm
   have h6:=y6 h1
   have:levAt s.e.st q<lev.toNat:=by
    rw [←lW hs.g.l.sp hfirst (by omega)]
    unfold levAt
    have hle:((s.e.st.take lev.toNat).filter fun s=>decide (s≤q)).length≤(s.e.st.take lev.toNat).length:=xD _ _
    have hlen:(s.e.st.take lev.toNat).length=lev.toNat:=by rw [qO];omega
    rw [hlen] at hle
    refine Nat.lt_of_le_of_ne hle fun e5 => ?_
    have:=kB.1 (kZ (vX (l:=s.e.st.take lev.toNat)) (e5.trans hlen.symm)) s' h'
    simp at this;omega
   omega)
 rw [hg0] at hE
 have hc4l:(s4.e.cl s1.e.cls.length)=C:=by rw [hcl4,hnew]
 rw [hc4l] at hE
 have hcond:¬(1<(-t::p.clause).length∧¬(((s1.e.push C).wat (C.getD 0 0)).length<LIM∧((s1.e.push C).wat (C.getD 1 0)).length<LIM∧C.getD 0 0≠C.getD 1 0)):=by
  rintro ⟨h1,h2⟩
  apply h2
  have w1:=nS u2.g.w (C.getD 0 0)
  have w2:=nS u2.g.w (C.getD 1 0)
  refine ⟨?_,?_,hCf.ne (by omega) (by simp at h1;omega) (by omega)⟩
  ·show (s1.e.wat _).length<LIM;omega
  ·show (s1.e.wat _).length<LIM;omega
 have hbw:∀b:Bool,backF f (if b=true then { ({ s1 with e:=s1.e.push C,org:=s1.org++[⟨wF,c,ch2⟩] }:Sol) with e:=(s1.e.push C).attach s1.e.cls.length } else { s1 with e:=s1.e.push C,org:=s1.org++[⟨wF,c,ch2⟩] }) lev.toNat =
   some (if b=true then { s4 with e:=s4.e.attach s1.e.cls.length } else s4):=by
  intro b
  cases b with
  | false=>exact b1
  | true =>
   rw [if_pos rfl,if_pos rfl]
   have h1:({ ({ s1 with e:=s1.e.push C,org:=s1.org++[⟨wF,c,ch2⟩] }:Sol) with e:=(s1.e.push C).attach s1.e.cls.length }:Sol)={ ({ s1 with e:=s1.e.push C,org:=s1.org++[⟨wF,c,ch2⟩] }:Sol) with e:={ (s1.e.push C) with wat:=((s1.e.push C).attach s1.e.cls.length).wat } }:=rfl
   rw [h1]
   have h2:=back_wat f { s1 with e:=s1.e.push C,org:=s1.org++[⟨wF,c,ch2⟩] } ((s1.e.push C).attach s1.e.cls.length).wat lev.toNat
   simp only at h2
   rw [h2,b1]
   simp only [vD]
   congr 1
   congr 1
   show ({ s4.e with wat:=_ }:Eng)=_
   unfold Eng.attach Eng.watch
   simp only [hcl4,b7]
 refine ⟨{ (if 1<C.length then { s4 with e:=s4.e.attach s1.e.cls.length } else s4) with e:=((if 1<C.length then s4.e.attach s1.e.cls.length else s4.e)).assign (-t) (s1.e.cls.length:Int) },?_,?_⟩
 ·unfold learnF
  rw [if_pos ⟨hc,by rw [hs.g.t.vl];exact qH.2 hfc.1,by unfold LIM;omega,by rw [hs.d.al,hs.g.t.vl],by rw [hs.g.t.ll,hs.g.t.vl],by rw [hs.g.t.rl,hs.g.t.vl],by rw [hs.d.ul,hs.g.t.vl]⟩,hp0,q1]
  simp only
  rw [u1]
  simp only
  rw [htg]
  unfold installF
  rw [if_pos ⟨by rw [u2.g.t.vl];exact qH.2 hfine.1,by simp,by simp only [qJ];have:=fine_len hfine;simp only [qJ] at this;unfold LIM;omega⟩]
  have y1':topF s1.e.lvl (List.range' 1 ((-t::p.clause).length-1)) (-t::p.clause) 0=(C,lev):=by
   rw [hlvl1,show (-t::p.clause).length-1=p.clause.length by simp];exact y1
  simp only [y1']
  rw [if_pos y4,hadd]
  simp only
  rw [if_neg hcond]
  have hlen2:(1<(-t::p.clause).length)=(1<C.length):=by rw [hClen];simp
  have:=hbw (decide (1<C.length))
  simp only [qI] at this
  simp only [hlen2]
  rw [this]
  simp only
  have htl4:s4.e.tr.length<LIM:=by rw [b4',qO];unfold LIM;omega
  by_cases h1:1<C.length
  ·rw [if_pos h1,if_pos h1]
   simp only
   rw [if_pos (show (s4.e.attach s1.e.cls.length).tr.length<LIM from htl4),hC0]
  ·rw [if_neg h1,if_neg h1]
   rw [if_pos htl4,hC0]
 ·have htr5:(s4.e.tr++[-t])=s.e.tr.take first++[-t]:=by rw [b4']
  have key:∀(e5:Eng),e5=(if 1<C.length then s4.e.attach s1.e.cls.length else s4.e)→LearnR f fc B N s Lo { (if 1<C.length then { s4 with e:=s4.e.attach s1.e.cls.length } else s4) with e:=e5.assign (-t) (s1.e.cls.length:Int) }:=by
   intro e5 he5
   rw [←he5] at hE
   have f1:e5.cls=s4.e.cls:=by rw [he5];split<;>rfl
   have f2:e5.tr=s4.e.tr:=by rw [he5];split<;>rfl
   have f3:e5.st=s4.e.st:=by rw [he5];split<;>rfl
   have f4:e5.hd=s4.e.hd:=by rw [he5];split<;>rfl
   have hx:(if 1<C.length then { s4 with e:=s4.e.attach s1.e.cls.length } else s4)={ s4 with e:=e5 }:=by rw [he5];split<;>rfl
   rw [hx]
   have fcl:∀d,e5.cl d=s4.e.cl d:=fun d=>by unfold Eng.cl;rw [f1]
   have hl4:s4.e.tr.length=first:=by rw [b4',qO];omega
   refine ⟨⟨by show EngI fc B (e5.assign (-t) _) e5.hd;rw [f4];exact hE,?_,⟨?_,fun d o ho => ?_,b2.d.ul,b2.d.al,fun v hv => ?_⟩⟩,⟨lev.toNat,first, -t,hfirst,?_,?_,?_⟩,?_,?_⟩
   ·show ThI f B N s4.num s4.arcs s4.act ((e5.tr++[-t]).take e5.hd) Lo
    rw [f2,f4,zY (by omega)]
    exact b2.t
   ·show s4.org.length=e5.cls.length;rw [f1];exact b2.d.ol
   ·exact (b2.d.dv d o ho).congr fun k _=>by show nm (e5.cl k)=nm (s4.e.cl k);rw [fcl]
   ·rcases b2.d.un v hv with h|⟨d,g1,g2,l,g3,g4,g5,g6⟩
    ·exact .inl h
    ·refine .inr ⟨d,g1,by show d<e5.cls.length;rw [f1];exact g2,l,by show e5.cl d=_;rw [fcl];exact g3,g4,?_,fun s' h' => ?_⟩
     ·show l∈e5.tr++[-t];rw [f2];exact qP _ g5
     ·have h'':s'∈s4.e.st:=by rw [←f3];exact h'
      show l∈(e5.tr++[-t]).take s'
      rw [f2,zY (by have:=(b2.g.l.sl s' h'').1;omega)]
      exact g6 s' h''
   ·show e5.st=_;rw [f3,b5']
   ·show e5.hd=_;rw [f4,b3]
   ·show e5.tr++[-t]=_;rw [f2,b4']
   ·show e5.cls.length+unitsOf s≤s.e.cls.length+1+s4.unt.countP _
    rw [f1,hn4,b10]
    have h9:s1.e.cls.length+unitsOf { s with acty:=p.acty }≤s.e.cls.length+unitsOf s1:=u3.cnt
    have h8:unitsOf { s with acty:=p.acty }=unitsOf s:=rfl
    show s1.e.cls.length+1+unitsOf s≤s.e.cls.length+1+unitsOf s1
    omega
   ·show s4.rst=s.rst
    rw [b12];exact u3.rst
  exact key _ rfl
end
end Go.Proofs.Yticieifacalocaa
