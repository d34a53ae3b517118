/- SolLoad -/
import Derived.Test.YticieifacalocaaTSH19
namespace Go.Proofs.Yticieifacalocaa
structure RefOk (f:Form) (l:List Stp):Prop where
 r:∃cs,wX f [] l=(cs,true)∧0<l.length∧cs.getD (l.length-1) []=[]
 len:l.length<LIM
 st:∀s∈l,1≤s.kind∧s.kind≤3∧0≤s.index∧s.index≤32768∧s.lits.length≤1000∧(∀x∈s.lits,vr x<1024)∧0≤s.p∧s.p<LIM∧0≤s.q∧s.q<LIM∧0≤s.var∧s.var<1024
section
variable {f fc:Form} {B N h:Nat} {Lo:Int}
def StB (n:Nat) (l:List Stp):Prop:=∀s∈l,1≤s.kind∧s.kind≤3∧0≤s.index∧s.index≤32768∧s.lits.length≤1000∧(∀x∈s.lits,vr x<1024)∧0≤s.p∧s.p<(n:Int)∧0≤s.q∧s.q<(n:Int)∧0≤s.var∧s.var<1024
def PlB (p:List Nat × List Stp):Prop:=∀i,p.1.getD i 0≤p.2.length
theorem chainF_b {c n:Nat}:∀(ch:List (Nat × Int)) (place:List Nat) (cur:Nat) (out:List Stp),c<place.length→PlB (place,out)→cur≤out.length→StB n out→out.length+ch.length<n→(∀l∈ch,vr l.2<1024)→PlB (gE ch place c cur out)∧StB n (gE ch place c cur out).2∧(gE ch place c cur out).2.length=out.length+ch.length∧(gE ch place c cur out).1.length=place.length:=by
 intro ch
 induction ch with
 | nil=>intro place cur out _ h1 _ h2 _ _;exact ⟨h1,h2,by simp [gE],by simp [gE]⟩
 | cons x ch ih =>
  intro place cur out hc h1 h2 h3 h4 h5
  obtain ⟨k,l⟩:=x
  have hk:=h1 k
  simp only at hk
  have hv:=h5 (k,l) (by simp)
  simp only at hv
  simp only [qJ] at h4
  have hs:StB n (out++[if l<0 then (⟨3,0,[],cur,place.getD k 0,vr l⟩:Stp) else ⟨3,0,[],place.getD k 0,cur,vr l⟩]):=by
   intro s hs
   rcases zK.1 hs with hs|hs
   ·exact h3 s hs
   ·rw [zH] at hs
    subst hs
    split
    ·exact ⟨by simp,by simp,by simp,by simp,by simp,by simp,by simp,by simp only;omega,by simp only;omega,by simp only;omega,by simp only;omega,by simp only;omega⟩
    ·exact ⟨by simp,by simp,by simp,by simp,by simp,by simp,by simp only;omega,by simp only;omega,by simp only;omega,by simp only;omega,by simp only;omega,by simp only;omega⟩
  rw [gE]
  obtain ⟨a1,a2,a3,a4⟩:=ih (place.set c out.length) out.length (out++[if l<0 then (⟨3,0,[],cur,place.getD k 0,vr l⟩:Stp) else ⟨3,0,[],place.getD k 0,cur,vr l⟩]) (by simpa using hc) (fun i=>by
   simp only
   rw [wG _ _ _ _ _ hc,zJ,qQ]
   have:=h1 i
   simp only at this
   split<;>omega) (by simp) hs (by simp;omega) (fun l2 h=>h5 l2 (by simp [h]))
  exact ⟨a1,a2,by rw [a3];simp;omega,by rw [a4];simp⟩
theorem stepsF_b {last:Nat} {org:List Org} {nmc:Nat→List Int} (hl:last<org.length) (hd:∀c o,org[c]? = some o→DerOk f B nmc c o) {n:Nat} (hn:(last+1) * (2 * B+1)<n):StB n (stepsF org last):=by
 have key:∀j,j≤last+1→∀need,PlB ((List.range j).foldl (outStep org need) (List.replicate (last+1) 0,[]))∧StB n ((List.range j).foldl (outStep org need) (List.replicate (last+1) 0,[])).2 ∧
   ((List.range j).foldl (outStep org need) (List.replicate (last+1) 0,[])).2.length≤j * (2 * B+1)∧((List.range j).foldl (outStep org need) (List.replicate (last+1) 0,[])).1.length=last+1:=by
  intro j
  induction j with
  | zero =>
   intro _ need
   refine ⟨fun i => ?_,by intro s hs;simp at hs,by simp,by simp⟩
   simp only [List.range_zero,xP,xA]
   rw [List.getD_eq_getElem?_getD,List.getElem?_replicate];split<;>simp
  | succ j ih =>
   intro hj need
   obtain ⟨a1,a2,a3,a4⟩:=ih (by omega) need
   rw [List.range_succ,List.foldl_append,xK,xP]
   generalize (List.range j).foldl (outStep org need) (List.replicate (last+1) 0,[])=p at a1 a2 a3 a4
   have hmul:(j+1) * (2 * B+1)=j * (2 * B+1)+(2 * B+1):=by rw [jU];omega
   have hle:(j+1) * (2 * B+1)≤(last+1) * (2 * B+1):=kT _ hj
   obtain ⟨o,ho⟩:∃o,org[j]? = some o:=⟨_,List.getElem?_eq_getElem (by omega)⟩
   have hdo:=hd j o ho
   unfold outStep
   rw [ho]
   simp only
   split
   ·split
    ·rename_i hk
     refine ⟨fun i => ?_,fun s hs => ?_,by simp;omega,by simp [a4]⟩
     ·simp only
      rw [wG _ _ _ _ _ (by omega),zJ,qQ]
      have:=a1 i
      split<;>omega
     ·rcases zK.1 hs with hs|hs
      ·exact a2 s hs
      ·rw [zH] at hs
       subst hs
       obtain ⟨l1,l2,l3,l4,l5,l6,l7⟩:=hdo.ll
       have hkd:=hdo.kd
       exact ⟨by omega,by omega,l3,l4,l1,l2,by omega,by omega,by omega,by omega,by omega,by omega⟩
    ·rename_i hk
     have hcl:=hdo.cl
     obtain ⟨b1,b2,b3,b4⟩:=chainF_b (c:=j) (n:=n) o.chain (p.1.set j (p.1.getD o.first 0)) (p.1.getD o.first 0) p.2 (by simp;omega) (fun i=>by
      simp only
      rw [wG _ _ _ _ _ (by omega)]
      split
      ·exact a1 _
      ·exact a1 i) (a1 _) a2 (by omega) (fun l hl=>(hdo.ch l hl).2.2)
     exact ⟨b1,b2,by rw [b3];omega,by rw [b4];simp [a4]⟩
   ·exact ⟨a1,a2,by omega,a4⟩
 exact (key (last+1) (Nat.le_refl _) (needF org last)).2.1
theorem lR (hq:SolQ f B N) {s:Sol} (hs:SolI f fc B N s h Lo) (hst:s.e.st=[]) {c:Nat} (hc:c<s.e.cls.length) (hfalse:∀x∈s.e.cl c, -x∈s.e.tr) (hbig:(s.e.cls.length+B+2) * (2 * B+1)<LIM)
  (hempty:s.e.cl c=[]→c+1=s.e.cls.length∧∃o,s.org[c]? = some o∧o.leaf.kind≠0) {fuel:Nat} (hfu:B<fuel):∃l,refuteF fuel s c=some l∧RefOk f l:=by
 have hbl:=hq.bl
 have hfc:=hs.g.c c hc
 have hf1:=gJ hbl hfc
 have hsmall:s.e.cls.length+B+2<LIM:=uE (Nat.le_mul_of_pos_right _ (by omega)) hbig
 obtain ⟨s1,ch,cur,u1,u2,u3,u4,u5,u6,u7,u8⟩:=nF hq (fuel:=fuel) (n0:=s.e.nmc c) (s.e.cl c) s [] (s.e.nmc c) hs hfu (aE hfc.2) (fun x hx=>by
   obtain ⟨p,hp⟩:=qV (hfalse x hx)
   exact ⟨p,hp,fun s' h'=>by rw [hst] at h';simp at h'⟩) (fun x hx=>(hf1.2.2 x).2 hx) (fun z hz=>by
   have hz1:=(hf1.2.2 z).1 hz
   refine ⟨hfc.1 z hz1,fun h2 => ?_⟩
   have h3:=(hf1.2.2 _).1 h2
   have:=dD hfc.2 hz1 h3 (by rw [vr_neg])
   have:=(wD.1 (hfc.1 z hz1)).1
   omega) hf1.2.1 rfl (by intro k hk;simp at hk) (by simp;have:=fine_len hfc;omega) (by omega)
 have hcur:cur=[]:=by
  rw [kD]
  intro z hz
  have:=(u6 z).1 hz
  exact this.2 ((hf1.2.2 z).1 this.1)
 subst hcur
 have hcnt:=u3.cnt
 have hu1:=gW u2.d
 have hlim1:s1.e.cls.length<LIM:=by omega
 have hadd:s1.addF [] ⟨wF,c,ch⟩=some { s1 with e:=s1.e.push [],org:=s1.org++[⟨wF,c,ch⟩] }:=by
  unfold Sol.addF
  rw [if_pos ⟨hlim1,by rw [u2.d.ol];exact hlim1⟩]
  rfl
 have hc1:c<s1.e.cls.length:=zZ hc u3.len
 have hpcl:∀d,d<s1.e.cls.length→(s1.e.push []).cl d=s1.e.cl d:=fun d hd=>by rw [s1.e.push_cl,if_neg (by omega)]
 have hnew:(s1.e.push []).cl s1.e.cls.length=[]:=by rw [s1.e.push_cl,if_pos rfl]
 have hder:DerOk f B (s1.e.push []).nmc s1.e.cls.length ⟨wF,c,ch⟩:=by
  refine ⟨.inl rfl,fun h=>absurd h (by simp [wF]),fun h=>absurd h (by simp [wF]),fun _ => ?_,fun _=>hc1,u7,u8,fun h=>absurd rfl h,by simp [wF],by simp [wF],by simp [wF],by simp [wF],rfl,rfl,rfl⟩
  show gC _ (nm ((s1.e.push []).cl c)) ch=some (nm ((s1.e.push []).cl s1.e.cls.length))
  rw [hnew,hpcl c hc1,u3.cl hc,dB (nmc:=s1.e.nmc) (n:=s1.e.cls.length) (fun k hk=>by show nm _=nm _;rw [hpcl k hk]) (fun k hk=>(u7 k hk).1)]
  exact u4
 have hd2:DvI f B { s1 with e:=s1.e.push [],org:=s1.org++[⟨wF,c,ch⟩] }:=u2.d.push hder
 have hol:(s1.org++[(⟨wF,c,ch⟩:Org)]).length=(s1.e.push []).cls.length:=hd2.ol
 have hplen:=s1.e.push_len []
 have hlast:(s1.org++[(⟨wF,c,ch⟩:Org)])[s1.e.cls.length]? = some ⟨wF,c,ch⟩:=by
  rw [zL (by rw [u2.d.ol];exact Nat.le_refl _),u2.d.ol];simp
 have hbnd:(s1.e.cls.length+1) * (2 * B+1)≤(s.e.cls.length+B+2) * (2 * B+1):=kT _ (by omega)
 have hch:ch≠[]∨(c+1=s1.e.cls.length∧∃o2,(s1.org++[(⟨wF,c,ch⟩:Org)])[c]? = some o2∧o2.leaf.kind≠0):=by
  by_cases hch:ch=[]
  ·right
   subst hch
   have hnn:s.e.nmc c=[]:=by
    have:gC s1.e.nmc (s.e.nmc c) []=some (s.e.nmc c):=rfl
    rw [this] at u4
    injection u4
   have hce:s.e.cl c=[]:=by
    rw [kD]
    intro z hz
    have:=(hf1.2.2 z).2 hz
    have h9:nm (s.e.cl c)=[]:=hnn
    rw [h9] at this
    simp at this
   obtain ⟨g1,o,g2,g3⟩:=hempty hce
   have hu:unitsF fuel s (s.e.cl c) []=some (s,[]):=by rw [hce];rfl
   rw [hu] at u1
   injection u1 with u1
   injection u1 with u1 _
   subst u1
   refine ⟨g1,o,?_,g3⟩
   rw [zO (by rw [u2.d.ol];exact hc)]
   exact g2
  ·exact .inl hch
 obtain ⟨cs,k1,k2,k3,k4⟩:=stepsF_ok (f:=f) (B:=B) (nmc:=(s1.e.push []).nmc) (org:=s1.org++[⟨wF,c,ch⟩]) (last:=s1.e.cls.length) (by omega) hd2.dv hlast rfl hch
 have hlen:(stepsF (s1.org++[⟨wF,c,ch⟩]) s1.e.cls.length).length<LIM:=by omega
 have horg:∀d,d<(s1.org++[(⟨wF,c,ch⟩:Org)]).length→∀o,(s1.org++[(⟨wF,c,ch⟩:Org)])[d]? = some o→orgOk (s1.org++[(⟨wF,c,ch⟩:Org)]).length o=true:=by
  intro d hd o ho
  have h1:=hd2.dv d o ho
  unfold orgOk
  simp only [xE,qI,qH]
  refine ⟨⟨?_,fun l hl => ?_⟩,?_⟩
  ·by_cases hk:o.leaf.kind=0
   ·have:=h1.fi hk;omega
   ·have:=(h1.f0 hk).1;omega
  ·obtain ⟨a1,a2,a3⟩:=h1.ch l hl
   unfold vr at a3
   exact ⟨by omega,a2,by omega,by omega⟩
  ·have:=h1.cl;unfold LIM;omega
 refine ⟨stepsF (s1.org++[⟨wF,c,ch⟩]) s1.e.cls.length,?_,⟨cs,k1,k2,?_⟩,hlen,?_⟩
 ·unfold refuteF
  rw [if_pos hc,u1]
  simp only
  rw [hadd]
  simp only
  rw [if_pos ⟨hol,horg,hlen⟩]
 ·rw [k3]
  show nm ((s1.e.push []).cl s1.e.cls.length)=[]
  rw [hnew];rfl
 ·exact stepsF_b (f:=f) (B:=B) (nmc:=(s1.e.push []).nmc) (last:=s1.e.cls.length) (org:=s1.org++[⟨wF,c,ch⟩]) (by omega) hd2.dv (n:=LIM) (uE hbnd hbig)
end
section
variable {f fc:Form} {B N h:Nat} {Lo:Int}
theorem up_fine {B:Nat} {l:List Int} (h1:Up l) (h2:∀x∈l,litB B x=true):Fine B l:=by
 refine ⟨h2,?_⟩
 unfold List.Nodup
 rw [yO]
 refine xZ (fun {a b} ha hb hlt e => ?_) h1
 have:=(wD.1 (h2 a ha)).1
 have:=(wD.1 (h2 b hb)).1
 unfold vr at e
 omega
def Form.with (f:Form) (gs:List (List Int)):Form:=⟨f.ints,f.bools,f.atoms,gs⟩
structure Load (f:Form) (B:Nat) (gs:List (List Int)) (e:Eng):Prop where
 i:EngI (f.with gs) B e 0
 st:e.st=[]
 hd:e.hd=0
 il:e.inp.length=e.cls.length
 ip:∀c k,e.inp[c]? = some k→∃g,gs[k]? = some g∧wJ g=some (e.nmc c)
theorem Load.new (f:Form) (B:Nat):Load f B [] (Eng.new B):=by
 refine ⟨⟨TrI.new B,fun c hc=>by simp [Eng.new] at hc,⟨by simp [Eng.new],by simp [Eng.new],by simp [Eng.new],by simp [Eng.new]⟩,⟨by simp [Eng.new],by simp [Eng.new],by simp [Eng.new]⟩,fun g hg=>by simp [Form.with] at hg,fun p l hp=>by simp [Eng.new] at hp⟩,rfl,rfl,rfl,by simp [Eng.new]⟩
theorem Load.skip {gs:List (List Int)} {e:Eng} (h:Load f B gs e) {g:List Int} (hg:wJ g=none):Load f B (gs++[g]) e:=by
 refine ⟨⟨h.i.t,h.i.c,h.i.l,h.i.w,fun g' hg' => ?_,h.i.r⟩,h.st,h.hd,h.il,fun c k hc => ?_⟩
 ·have hg2:g'∈gs++[g]:=hg'
  rcases zK.1 hg2 with hg2|hg2
  ·exact h.i.i g' hg2
  ·rw [zH] at hg2;rw [hg2];exact .inl hg
 ·obtain ⟨g',h1,h2⟩:=h.ip c k hc
  exact ⟨g',by rw [zO ((zG.1 h1).1)];exact h1,h2⟩
def Eng.take (e:Eng) (cl:List Int) (i:Nat):Eng:={ e with cls:=e.cls++[cl],inp:=e.inp++[i] }
theorem Load.taken {gs:List (List Int)} {e:Eng} (h:Load f B gs e) {cl:List Int} (hf:Fine B cl) {g:List Int} (hg:wJ g=some cl) (hB:B≤1024) :
  EngI (f.with gs) B (e.take cl gs.length) 0∧(e.take cl gs.length).inp.length=(e.take cl gs.length).cls.length∧(∀c k,(e.take cl gs.length).inp[c]? = some k→∃g',(gs++[g])[k]? = some g'∧wJ g'=some ((e.take cl gs.length).nmc c))∧(e.take cl gs.length).cl e.cls.length=cl∧cl=nm cl:=by
 have hp:=h.i.push hf
 have hnew:(e.push cl).cl e.cls.length=cl:=by rw [e.push_cl,if_pos rfl]
 have hcn:cl=nm cl:=by
  have hs:=gD g
  rw [hg] at hs
  exact nm_eq hs.1 (fun z=>jQ) hB hf
 refine ⟨⟨⟨hp.t.vl,hp.t.rl,hp.t.ll,hp.t.v3,hp.t.lits,hp.t.nd,hp.t.tr⟩,hp.c,⟨hp.l.sp,hp.l.sl,hp.l.hd,hp.l.lv⟩,⟨hp.w.w1,hp.w.w3,hp.w.w4⟩,hp.i,hp.r⟩,by simp [Eng.take,h.il],fun c k hc => ?_,hnew,hcn⟩
 have hc2:(e.inp++[gs.length])[c]? = some k:=hc
 by_cases hlt:c<e.inp.length
 ·rw [zO hlt] at hc2
  obtain ⟨g',h1,h2⟩:=h.ip c k hc2
  refine ⟨g',by rw [zO ((zG.1 h1).1)];exact h1,?_⟩
  rw [h2]
  congr 1
  show nm (e.cl c)=nm ((e.push cl).cl c)
  rw [e.push_cl,if_neg (by have:=h.il;omega)]
 ·have h1:=(zG.1 hc2).1
  have h2:c=e.inp.length:=by simp at h1;omega
  subst h2
  rw [zL (Nat.le_refl _)] at hc2
  simp at hc2
  subst hc2
  refine ⟨g,by rw [zL (Nat.le_refl _)];simp,?_⟩
  rw [hg]
  congr 1
  show cl=nm ((e.push cl).cl e.inp.length)
  rw [h.il,hnew]
  exact hcn
theorem InI.more {gs:List (List Int)} {e:Eng} {g:List Int} {n:List Int} (h:InI (f.with gs) e) (hg:wJ g=some n) {c:Nat} (hc:c<e.cls.length) (hn:n=e.nmc c) (hok:(2≤(e.cl c).length∧c∈e.wat (e.g0 c))∨∃l,e.cl c=[l]∧l∈e.tr∧∀s∈e.st,l∈e.tr.take s):InI (f.with (gs++[g])) e:=by
 intro g' hg'
 have hg2:g'∈gs++[g]:=hg'
 rcases zK.1 hg2 with hg2|hg2
 ·exact h g' hg2
 ·rw [zH] at hg2;rw [hg2]
  exact .inr ⟨c,hc,by rw [hg,hn],hok⟩
theorem EngI.attach0 {e:Eng} (hi:EngI fc B e 0) {c:Nat} (hc:c<e.cls.length) (hnew:∀l,c∉e.wat l) (h2:2≤(e.cl c).length):EngI fc B (e.attach c) 0∧c∈(e.attach c).wat (e.g0 c):=by
 have hfc:=hi.c c hc
 have h01:e.g0 c≠e.g1 c:=hfc.ne (by omega) h2 (by omega)
 have hwat:∀l,(e.attach c).wat l=if l=e.g1 c then e.wat l++[c] else if l=e.g0 c then e.wat l++[c] else e.wat l:=fun l=>by
  show upd (upd e.wat (e.g0 c) (e.wat (e.g0 c)++[c])) (e.g1 c) (upd e.wat (e.g0 c) (e.wat (e.g0 c)++[c]) (e.g1 c)++[c]) l=_
  rw [wT]
  by_cases h1:l=e.g1 c
  ·rw [if_pos h1,if_pos h1,wT,if_neg (fun e3=>h01 e3.symm),h1]
  ·rw [if_neg h1,if_neg h1,wT]
   by_cases h3:l=e.g0 c
   ·rw [if_pos h3,if_pos h3,h3]
   ·rw [if_neg h3,if_neg h3]
 have hmem:∀l d,d≠c→(d∈(e.attach c).wat l↔d∈e.wat l):=fun l d hd=>by
  rw [hwat]
  split
  ·simp [hd]
  ·split
   ·simp [hd]
   ·exact jQ
 have hmemc:∀l,c∈(e.attach c).wat l↔l=e.g0 c∨l=e.g1 c:=fun l=>by
  rw [hwat]
  by_cases h1:l=e.g1 c
  ·rw [if_pos h1];simp [h1]
  ·rw [if_neg h1]
   by_cases h3:l=e.g0 c
   ·rw [if_pos h3];simp [h3]
   ·rw [if_neg h3];simp [h1,h3,hnew l]
 refine ⟨⟨⟨hi.t.vl,hi.t.rl,hi.t.ll,hi.t.v3,hi.t.lits,hi.t.nd,hi.t.tr⟩,hi.c,⟨hi.l.sp,hi.l.sl,hi.l.hd,hi.l.lv⟩,⟨fun l d hd => ?_,fun d hd => ?_,fun l => ?_⟩,fun g hg => ?_,hi.r⟩,(hmemc _).2 (.inl rfl)⟩
 ·show d<e.cls.length∧2≤(e.cl d).length∧(l=e.g0 d∨l=e.g1 d)∧d∈(e.attach c).wat (e.g0 d)∧d∈(e.attach c).wat (e.g1 d)
  by_cases e2:d=c
  ·subst e2
   exact ⟨hc,h2,(hmemc l).1 hd,(hmemc _).2 (.inl rfl),(hmemc _).2 (.inr rfl)⟩
  ·rw [hmem _ _ e2,hmem _ _ e2]
   exact hi.w.w1 l d ((hmem l d e2).1 hd)
 ·exact ⟨fun hm=>by simp at hm,fun hm=>by simp at hm⟩
 ·have app:∀m:List Nat,m.Nodup→c∉m→(m++[c]).Nodup:=fun m a b=>by
   rw [qG]
   refine ⟨a,by simp,fun x hx y hy e2 => ?_⟩
   rw [zH] at hy
   subst hy e2
   exact b hx
  rw [hwat]
  split
  ·exact app _ (hi.w.w4 _) (hnew _)
  ·split
   ·exact app _ (hi.w.w4 _) (hnew _)
   ·exact hi.w.w4 l
 ·rcases hi.i g hg with h|⟨d,h1,h3,h4⟩
  ·exact .inl h
  ·refine .inr ⟨d,h1,h3,?_⟩
   rcases h4 with ⟨h4,h5⟩|h4
   ·refine .inl ⟨h4,?_⟩
    show d∈(e.attach c).wat (e.g0 d)
    by_cases e2:d=c
    ·subst e2;exact absurd h5 (hnew _)
    ·exact (hmem _ d e2).2 h5
   ·exact .inr h4
theorem loadF_ok (hB:B≤1024):∀(rest gs:List (List Int)) (e:Eng),Load f B gs e→(∀g∈rest,∀x∈g,litB B x=true) →
  ∃e2 r,gM wJ gs.length rest e=some (e2,r)∧e2.cls.length≤e.cls.length+rest.length ∧
   ((r = -1∧Load f B (gs++rest) e2)∨(∃c:Nat,r=c∧c+1=e2.cls.length∧e2.st=[]∧e2.hd=0∧EngI (f.with []) B e2 0∧(∀x∈e2.cl c, -x∈e2.tr)∧e2.inp.length=e2.cls.length∧∀c k,e2.inp[c]? = some k→∃g,(gs++rest)[k]? = some g∧wJ g=some (e2.nmc c))):=by
 intro rest
 induction rest with
 | nil=>intro gs e h _;exact ⟨e, -1,rfl,by simp, .inl ⟨rfl,by simpa using h⟩⟩
 | cons g rest ih =>
  intro gs e h hl
  have hgs:gs++g::rest=(gs++[g])++rest:=by simp
  have hlen:(gs++[g]).length=gs.length+1:=by simp
  have weaken:∀{e':Eng} {gs':List (List Int)},EngI (f.with gs') B e' 0→EngI (f.with []) B e' 0:=fun hi=>⟨hi.t,hi.c,hi.l,hi.w,fun g hg=>by simp [Form.with] at hg,hi.r⟩
  rw [gM]
  cases hn:wJ g with
  | none =>
   simp only
   obtain ⟨e2,r,q1,q2,q3⟩:=ih (gs++[g]) e (h.skip hn) (fun g' hg'=>hl g' (by simp [hg']))
   rw [hlen] at q1
   refine ⟨e2,r,q1,by simp;omega,?_⟩
   rw [hgs];exact q3
  | some cl =>
   have hs:=gD g
   rw [hn] at hs
   have hlit:∀x∈cl,litB B x=true:=fun x hx=>hl g (by simp) x ((hs.2.1 x).1 hx)
   have hf:=up_fine hs.1 hlit
   obtain ⟨t1,t2,t3,t4,t5⟩:=h.taken hf hn hB
   have hcl:(e.take cl gs.length).cls.length=e.cls.length+1:=by simp [Eng.take]
   have ext:∀{e':Eng},e'.inp=(e.take cl gs.length).inp→(∀c,e'.cl c=(e.take cl gs.length).cl c)→∀(tail:List (List Int)) c k,e'.inp[c]? = some k→∃g',((gs++[g])++tail)[k]? = some g'∧wJ g'=some (e'.nmc c):=by
    intro e' h1 h2 tail c k hc
    rw [h1] at hc
    obtain ⟨g',a1,a2⟩:=t3 c k hc
    refine ⟨g',by rw [zO ((zG.1 a1).1)];exact a1,?_⟩
    rw [a2]
    unfold Eng.nmc
    rw [h2]
   have hnm:cl=(e.take cl gs.length).nmc e.cls.length:=by unfold Eng.nmc;rw [t4];exact t5
   simp only
   rw [h.i.t.vl,if_pos (qH.2 hlit)]
   rcases cl with _|⟨l,_|⟨b,cl⟩⟩
   ·simp only
    refine ⟨_,_,rfl,by simp, .inr ⟨e.cls.length,rfl,by simp,h.st,h.hd,weaken t1,fun x hx => ?_,t2,?_⟩⟩
    ·have hx2:x∈(e.take [] gs.length).cl e.cls.length:=hx
     rw [t4] at hx2;simp at hx2
    ·rw [hgs];exact ext rfl (fun _=>rfl) rest
   ·simp only
    have hll:=hlit l (by simp)
    by_cases h1:tv e.val l<0
    ·rw [if_pos h1]
     refine ⟨_,_,rfl,by simp, .inr ⟨e.cls.length,rfl,by simp,h.st,h.hd,weaken t1,fun x hx => ?_,t2,?_⟩⟩
     ·have hx2:x∈(e.take [l] gs.length).cl e.cls.length:=hx
      rw [t4,zH] at hx2
      subst hx2
      show -x∈e.tr
      rw [←h.i.t.false_ hll]
      have:=h.i.t.three x
      omega
     ·rw [hgs];exact ext rfl (fun _=>rfl) rest
    ·rw [if_neg h1]
     by_cases h2:tv e.val l=0
     ·rw [if_pos h2]
      have hga:Grow (e.take [l] gs.length) ((e.take [l] gs.length).assign l e.cls.length):=cY t1.t hll h2 (by rw [hcl];omega) (by rw [t4];simp) (fun x hx hne=>by rw [t4,zH] at hx;exact absurd hx hne)
      have hst:((e.take [l] gs.length).assign l e.cls.length).st=[]:=h.st
      have hL:Load f B (gs++[g]) ((e.take [l] gs.length).assign l e.cls.length):=by
       refine ⟨⟨t1.t.assign hll h2,hga.cli t1.c,t1.l.grow hga,⟨t1.w.w1,fun d hd=>⟨fun hm=>by simp at hm,fun hm=>by simp at hm⟩,t1.w.w4⟩,?_,t1.r.grow hga⟩,h.st,h.hd,t2,by simpa using ext (e':=(e.take [l] gs.length).assign l e.cls.length) rfl (fun _=>rfl) []⟩
       refine InI.more (InI.grow t1.i t1.l hga (fun _ h=>h)) hn (c:=e.cls.length) (by show _<(e.take [l] gs.length).cls.length;rw [hcl];omega) hnm (.inr ⟨l,t4,?_,fun s hs => ?_⟩)
       ·show l∈e.tr++[l];simp
       ·rw [hst] at hs;simp at hs
      obtain ⟨e2,r,q1,q2,q3⟩:=ih (gs++[g]) _ hL (fun g' hg'=>hl g' (by simp [hg']))
      rw [hlen] at q1
      refine ⟨e2,r,q1,?_,?_⟩
      ·have:((e.take [l] gs.length).assign l e.cls.length).cls.length=e.cls.length+1:=hcl
       simp only [qJ];omega
      ·rw [hgs];exact q3
     ·rw [if_neg h2]
      have hL:Load f B (gs++[g]) (e.take [l] gs.length):=by
       refine ⟨⟨t1.t,t1.c,t1.l,t1.w,?_,t1.r⟩,h.st,h.hd,t2,by simpa using ext (e':=e.take [l] gs.length) rfl (fun _=>rfl) []⟩
       refine InI.more t1.i hn (c:=e.cls.length) (by rw [hcl];omega) hnm (.inr ⟨l,t4,?_,fun s hs => ?_⟩)
       ·show l∈e.tr
        rw [←h.i.t.tr l hll]
        have:=h.i.t.three l
        omega
       ·have hs2:s∈e.st:=hs
        rw [h.st] at hs2;simp at hs2
      obtain ⟨e2,r,q1,q2,q3⟩:=ih (gs++[g]) _ hL (fun g' hg'=>hl g' (by simp [hg']))
      rw [hlen] at q1
      refine ⟨e2,r,q1,?_,?_⟩
      ·simp only [qJ];omega
      ·rw [hgs];exact q3
   ·simp only
    obtain ⟨w1,w2⟩:=t1.attach0 (c:=e.cls.length) (by rw [hcl];omega) (fun l hm=>by
     have:=(h.i.w.w1 l _ hm).1
     omega) (by rw [t4];simp)
    have hL:Load f B (gs++[g]) ((e.take (l::b::cl) gs.length).attach e.cls.length):=by
     refine ⟨⟨w1.t,w1.c,w1.l,w1.w,?_,w1.r⟩,h.st,h.hd,t2,by simpa using ext (e':=(e.take (l::b::cl) gs.length).attach e.cls.length) rfl (fun _=>rfl) []⟩
     exact InI.more w1.i hn (c:=e.cls.length) (by show _<(e.take (l::b::cl) gs.length).cls.length;rw [hcl];omega) hnm (.inl ⟨by show 2≤((e.take (l::b::cl) gs.length).cl e.cls.length).length;rw [t4];simp,w2⟩)
    obtain ⟨e2,r,q1,q2,q3⟩:=ih (gs++[g]) _ hL (fun g' hg'=>hl g' (by simp [hg']))
    rw [hlen] at q1
    refine ⟨e2,r,q1,?_,?_⟩
    ·have:((e.take (l::b::cl) gs.length).attach e.cls.length).cls.length=e.cls.length+1:=hcl
     simp only [qJ];omega
    ·rw [hgs];exact q3
end
end Go.Proofs.Yticieifacalocaa
