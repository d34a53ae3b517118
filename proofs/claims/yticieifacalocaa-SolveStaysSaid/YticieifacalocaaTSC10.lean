/- SolSteps SolLoad -/
import Derived.Test.YticieifacalocaaTSC9
namespace Go.Proofs.Yticieifacalocaa
section
variable {f:Form} {B:Nat} {nmc:Nat→List Int} {org:List Org}
theorem pI {cs:List (List Int)} {s:Stp} {c:List Int}:∀(l:List Stp) (a:List (List Int)),gE f a l=(cs,true)→deriv f s cs=some c→gE f a (l++[s])=(cs++[c],true):=by
 intro l
 induction l with
 | nil=>intro a h hd;rw [gE] at h;injection h with h _;subst h;rw [xB,gE,hd];rfl
 | cons x l ih =>
  intro a h hd
  rw [gE] at h
  rw [qY,gE]
  cases e:deriv f x a with
  | none=>rw [e] at h;injection h with _ h;cases h
  | some d=>rw [e] at h;exact ih _ h hd
theorem lF {cs:List (List Int)}:∀(l:List Stp) (a:List (List Int)),gE f a l=(cs,true)→cs.length=a.length+l.length:=by
 intro l
 induction l with
 | nil=>intro a h;rw [gE] at h;injection h with h _;subst h;simp
 | cons x l ih =>
  intro a h
  rw [gE] at h
  cases e:deriv f x a with
  | none=>rw [e] at h;injection h with _ h;cases h
  | some d=>rw [e] at h;have:=ih _ h;simp at this ⊢;omega
def NeedOk (org:List Org) (need:List Bool) (c:Nat):Prop:=∀o,org[c]? = some o→need.getD c false=true→o.leaf.kind=0→need.getD o.first false=true∧∀l∈o.chain,need.getD l.1 false=true
theorem need_fold {n:Nat}:∀(ch:List (Nat × Int)) (need:List Bool),need.length=n→(∀l∈ch,l.1<n)→(ch.foldl (fun n l=>n.set l.1 true) need).length=n ∧
  (∀i,(ch.foldl (fun n l=>n.set l.1 true) need).getD i false=true↔need.getD i false=true∨∃l∈ch,l.1=i):=by
 intro ch
 induction ch with
 | nil=>intro need hn _;exact ⟨hn,fun i=>by simp⟩
 | cons x ch ih =>
  intro need hn hl
  obtain ⟨a1,a2⟩:=ih (need.set x.1 true) (by simp [hn]) fun l h=>hl l (by simp [h])
  refine ⟨a1,fun i => ?_⟩
  rw [xV,a2,wW _ _ _ _ _ (by rw [hn];exact hl x (by simp))]
  by_cases e:i=x.1
  ·subst e;simp
  ·rw [if_neg e]
   simp only [zW,exists_eq_or_imp]
   constructor
   ·rintro (h|h)
    ·exact .inl h
    ·exact .inr (.inr h)
   ·rintro (h|h|h)
    ·exact .inl h
    ·exact absurd h.symm e
    ·exact .inr h
theorem needF_ok {last:Nat} (hd:∀c o,org[c]? = some o→DerOk f B nmc c o):(needF org last).length=last+1∧(needF org last).getD last false=true∧∀c,c≤last→NeedOk org (needF org last) c:=by
 have key:∀j,j≤last+1→∃need,(((List.range (last+1)).reverse).take j).foldl (needStep org) ((List.replicate (last+1) false).set last true)=need∧need.length=last+1∧need.getD last false=true∧∀c,last+1-j≤c→c≤last→NeedOk org need c:=by
  intro j
  induction j with
  | zero =>
   intro _
   refine ⟨_,rfl,by simp,by rw [vP,xW,wW _ _ _ _ _ (by simp),if_pos rfl],fun c h1 h2=>by omega⟩
  | succ j ih =>
   intro hj
   obtain ⟨need,e1,e2,e3,e4⟩:=ih (by omega)
   have hg:((List.range (last+1)).reverse)[j]? = some (last-j):=by
    rw [jJ (by simp;omega),List.length_range,uF (by omega)]
    congr 1
   rw [xS,hg]
   simp only [Option.toList,List.foldl_append,xV,xW,e1]
   cases ho:org[last-j]? with
   | none =>
    have hs:needStep org need (last-j)=need:=by unfold needStep;rw [ho]
    refine ⟨need,hs,e2,e3,fun c h1 h2 => ?_⟩
    by_cases e:c=last-j
    ·subst e;intro o h;rw [ho] at h;cases h
    ·exact e4 c (by omega) h2
   | some o =>
    have hdo:=hd _ o ho
    by_cases hc:need.getD (last-j) false=true∧o.leaf.kind=0
    ·have hs:needStep org need (last-j)=o.chain.foldl (fun n l=>n.set l.1 true) (need.set o.first true):=by unfold needStep;rw [ho];simp only;rw [if_pos hc]
     have hfi:=hdo.fi hc.2
     obtain ⟨b1,b2⟩:=need_fold (n:=last+1) o.chain (need.set o.first true) (by simp [e2]) (fun l h=>by have:=(hdo.ch l h).1;omega)
     have b3:∀i,(o.chain.foldl (fun n l=>n.set l.1 true) (need.set o.first true)).getD i false=true↔need.getD i false=true∨i=o.first∨∃l∈o.chain,l.1=i:=fun i=>by
      rw [b2,wW _ _ _ _ _ (by omega)]
      by_cases e:i=o.first
      ·rw [if_pos e];simp [e]
      ·rw [if_neg e];simp [e]
     refine ⟨_,hs,b1,(b3 _).2 (.inl e3),fun c h1 h2 o2 ho2 hn2 hk => ?_⟩
     have hsame:need.getD c false=true:=by
      rcases (b3 c).1 hn2 with h|h|⟨l,h,e⟩
      ·exact h
      ·omega
      ·have:=(hdo.ch l h).1;omega
     by_cases e:c=last-j
     ·subst e
      rw [ho] at ho2
      injection ho2 with ho2
      subst ho2
      exact ⟨(b3 _).2 (.inr (.inl rfl)),fun l h=>(b3 _).2 (.inr (.inr ⟨l,h,rfl⟩))⟩
     ·obtain ⟨c1,c2⟩:=e4 c (by omega) h2 o2 ho2 hsame hk
      exact ⟨(b3 _).2 (.inl c1),fun l h=>(b3 _).2 (.inl (c2 l h))⟩
    ·have hs:needStep org need (last-j)=need:=by unfold needStep;rw [ho];simp only;rw [if_neg hc]
     refine ⟨need,hs,e2,e3,fun c h1 h2 => ?_⟩
     by_cases e:c=last-j
     ·subst e
      intro o2 ho2 hn hk
      rw [ho] at ho2
      injection ho2 with ho2
      subst ho2
      exact absurd ⟨hn,hk⟩ hc
     ·exact e4 c (by omega) h2
 obtain ⟨need,e1,e2,e3,e4⟩:=key (last+1) (Nat.le_refl _)
 rw [zV (by simp)] at e1
 unfold needF
 rw [e1]
 exact ⟨e2,e3,fun c hc=>e4 c (by omega) hc⟩
theorem chainF_ok {c n:Nat} (hcn:c<n):∀(ch:List (Nat × Int)) (place:List Nat) (cur:Nat) (out:List Stp) (cs:List (List Int)) (m r:List Int),place.length=n→gE f [] out=(cs,true)→cs[cur]? = some m→place.getD c 0=cur→gU nmc m ch=some r→(∀l∈ch,l.1<c∧l.2≠0∧cs[place.getD l.1 0]? = some (nmc l.1)) →
  ∃place2 out2 cs2 more,gW ch place c cur out=(place2,out2)∧place2.length=n∧gE f [] out2=(cs2,true)∧cs2=cs++more∧out2.length=out.length+ch.length∧cs2[place2.getD c 0]? = some r∧(∀d,d≠c→place2.getD d 0=place.getD d 0)∧(ch≠[]→place2.getD c 0+1=out2.length):=by
 intro ch
 induction ch with
 | nil =>
  intro place cur out cs m r h1 h2 h3 h4 h5 _
  simp [gU] at h5
  subst h5
  exact ⟨place,out,cs,[],rfl,h1,h2,by simp,by simp,by rw [h4];exact h3,fun _ _=>rfl,fun h=>absurd rfl h⟩
 | cons x ch ih =>
  intro place cur out cs m r h1 h2 h3 h4 h5 h6
  obtain ⟨k,l⟩:=x
  rw [gU] at h5
  obtain ⟨m2,g1,g2⟩:=yA.1 h5
  obtain ⟨k1,k2,k3⟩:=h6 (k,l) (by simp)
  simp only at k1 k2 k3
  have hlen:=lF _ _ h2
  simp only [yW,Nat.zero_add] at hlen
  obtain ⟨s,hs,hder⟩:∃s:Stp,(if l<0 then (⟨3,0,[],cur,place.getD k 0,vr l⟩:Stp) else ⟨3,0,[],place.getD k 0,cur,vr l⟩)=s∧deriv f s cs=some m2:=by
   refine ⟨_,rfl,?_⟩
   unfold resL at g1
   by_cases hl:l<0
   ·rw [if_pos hl] at g1 ⊢
    unfold deriv
    rw [if_neg (by simp),if_neg (by simp),if_pos rfl,if_pos ⟨by simp,by simp⟩]
    simp only [Int.toNat_natCast,h3,k3,Option.bind_some]
    exact g1
   ·rw [if_neg hl] at g1 ⊢
    unfold deriv
    rw [if_neg (by simp),if_neg (by simp),if_pos rfl,if_pos ⟨by simp,by simp⟩]
    simp only [Int.toNat_natCast,h3,k3,Option.bind_some]
    exact g1
  have hr2:=pI out [] h2 hder
  have hget:∀d,(place.set c out.length).getD d 0=if d=c then out.length else place.getD d 0:=fun d=>wW _ _ _ _ _ (by omega)
  obtain ⟨place2,out2,cs2,more,q1,q2,q3,q4,q5,q6,q7,q8⟩:=ih (place.set c out.length) out.length (out++[s]) (cs++[m2]) m2 r (by simp [h1]) hr2 (by rw [zL (by omega),hlen];simp) (by rw [hget,if_pos rfl]) g2 (fun l2 h=>by
   obtain ⟨c1,c2,c3⟩:=h6 l2 (by simp [h])
   refine ⟨c1,c2,?_⟩
   rw [hget,if_neg (by omega),zP ((zG.1 c3).1)]
   exact c3)
  refine ⟨place2,out2,cs2,[m2]++more,?_,q2,q3,by rw [q4,zZ],by rw [q5];simp;omega,q6,fun d hd=>by rw [q7 d hd,hget,if_neg hd],fun _ => ?_⟩
  ·rw [gW]
   simp only [hs]
   exact q1
  ·cases ch with
   | nil =>
    rw [gW] at q1
    injection q1 with q1 q9
    rw [←q1,←q9,hget,if_pos rfl];simp
   | cons y ch=>exact q8 (by simp)
structure StI (f:Form) (nmc:Nat→List Int) (need:List Bool) (n B c:Nat) (p:List Nat × List Stp):Prop where
 pl:p.1.length=n
 ok:∃cs,gE f [] p.2=(cs,true)∧∀d,d<c→need.getD d false=true→cs[p.1.getD d 0]? = some (nmc d)
 len:p.2.length≤c * (2 * B+1)
theorem fM {last:Nat} (hd:∀c o,org[c]? = some o→DerOk f B nmc c o) {need:List Bool} (hn:∀c,c≤last→NeedOk org need c) {c:Nat} (hc:c≤last) {o:Org} (ho:org[c]? = some o) {p:List Nat × List Stp} (hp:StI f nmc need (last+1) B c p) :
  StI f nmc need (last+1) B (c+1) (outStep org need p c)∧(need.getD c false=true→o.leaf.kind≠0∨o.chain≠[]→(outStep org need p c).1.getD c 0+1=(outStep org need p c).2.length) ∧
  (need.getD c false=true→o.leaf.kind=0→o.chain=[]→(outStep org need p c).2=p.2∧(outStep org need p c).1.getD c 0=p.1.getD o.first 0):=by
 obtain ⟨cs,h1,h2⟩:=hp.ok
 have hpl:=hp.pl
 have hdo:=hd c o ho
 have hlen:=hp.len
 have hmul:(c+1) * (2 * B+1)=c * (2 * B+1)+(2 * B+1):=by rw [wH];omega
 have hrl:=lF _ _ h1
 simp only [yW,Nat.zero_add] at hrl
 by_cases hnc:need.getD c false=true
 ·by_cases hk:o.leaf.kind≠0
  ·have hs:outStep org need p c=(p.1.set c p.2.length,p.2++[o.leaf]):=by unfold outStep;rw [ho];simp only;rw [if_pos hnc,if_pos hk]
   have hget:∀d,(p.1.set c p.2.length).getD d 0=if d=c then p.2.length else p.1.getD d 0:=fun d=>wW _ _ _ _ _ (by omega)
   have hder:deriv f o.leaf cs=some (nmc c):=by
    unfold deriv
    rcases hdo.kd with e|e|e
    ·exact absurd e hk
    ·obtain ⟨a1,g,a2,a3⟩:=hdo.k1 e
     rw [if_pos e,if_pos a1,a2]
     exact a3
    ·rw [if_neg (by rw [e];decide),if_pos e]
     exact hdo.k2 e
   rw [hs]
   refine ⟨⟨by simp [hpl],⟨cs++[nmc c],pI _ _ h1 hder,fun d hdc hnd => ?_⟩,by simp only [zH,qL];omega⟩,fun _ _=>by simp only [hget,if_true];simp,fun _ e=>absurd e hk⟩
   simp only [hget]
   by_cases e:d=c
   ·subst e;rw [if_pos rfl,zL (by omega),hrl];simp
   ·rw [if_neg e]
    have:=h2 d (by omega) hnd
    rw [zP ((zG.1 this).1)]
    exact this
  ·have hk0:o.leaf.kind=0:=qH hk
   have hs:outStep org need p c=gW o.chain (p.1.set c (p.1.getD o.first 0)) c (p.1.getD o.first 0) p.2:=by unfold outStep;rw [ho];simp only;rw [if_pos hnc,if_neg hk]
   have hfi:=hdo.fi hk0
   obtain ⟨n1,n2⟩:=hn c hc o ho hnc hk0
   have hget:∀d,(p.1.set c (p.1.getD o.first 0)).getD d 0=if d=c then p.1.getD o.first 0 else p.1.getD d 0:=fun d=>wW _ _ _ _ _ (by omega)
   obtain ⟨place2,out2,cs2,more,q1,q2,q3,q4,q5,q6,q7,q8⟩:=chainF_ok (f:=f) (nmc:=nmc) (n:=last+1) (c:=c) (by omega) o.chain (p.1.set c (p.1.getD o.first 0)) (p.1.getD o.first 0) p.2 cs (nmc o.first) (nmc c) (by simp [hpl]) h1 (h2 _ hfi n1) (by rw [hget,if_pos rfl]) (hdo.k0 hk0) (fun l hl=>by
    obtain ⟨c1,c2,c3⟩:=hdo.ch l hl
    exact ⟨c1,c2,by rw [hget,if_neg (by omega)];exact h2 _ c1 (n2 l hl)⟩)
   rw [hs,q1]
   refine ⟨⟨q2,⟨cs2,q3,fun d hdc hnd => ?_⟩,by have:=hdo.cl;simp only;omega⟩,fun _ h=>q8 (h.elim (fun h=>absurd hk0 h) id),fun _ _ hch => ?_⟩
   ·simp only
    by_cases e:d=c
    ·subst e;exact q6
    ·rw [q7 d e,hget,if_neg e,q4]
     have:=h2 d (by omega) hnd
     rw [zP ((zG.1 this).1)]
     exact this
   ·rw [hch,gW] at q1
    injection q1 with q1 q9
    simp only
    rw [←q1,←q9]
    exact ⟨rfl,by rw [hget,if_pos rfl]⟩
 ·have hs:outStep org need p c=p:=by unfold outStep;rw [ho];simp only;rw [if_neg hnc]
  rw [hs]
  refine ⟨⟨hpl,⟨cs,h1,fun d hdc hnd => ?_⟩,by omega⟩,fun h=>absurd h hnc,fun h=>absurd h hnc⟩
  by_cases e:d=c
  ·subst e;exact absurd hnd hnc
  ·exact h2 d (by omega) hnd
theorem stepsF_ok {last:Nat} (hl:last<org.length) (hd:∀c o,org[c]? = some o→DerOk f B nmc c o) {o:Org} (ho:org[last]? = some o) (hk:o.leaf.kind=0) (hch:o.chain≠[]∨(o.first+1=last∧∃o2,org[o.first]? = some o2∧o2.leaf.kind≠0)) :
  ∃cs,gE f [] (stepsF org last)=(cs,true)∧0<(stepsF org last).length∧cs.getD ((stepsF org last).length-1) []=nmc last∧(stepsF org last).length≤(last+1) * (2 * B+1):=by
 obtain ⟨n1,n2,n3⟩:=needF_ok (f:=f) (B:=B) (nmc:=nmc) (last:=last) hd
 generalize hneed:needF org last=need at n1 n2 n3
 have key:∀j,j≤last+1→StI f nmc need (last+1) B j ((List.range j).foldl (outStep org need) (List.replicate (last+1) 0,[])):=by
  intro j
  induction j with
  | zero=>intro _;exact ⟨by simp,⟨[],rfl,fun d h=>by omega⟩,by simp⟩
  | succ j ih =>
   intro hj
   rw [List.range_succ,List.foldl_append,xV,xW]
   obtain ⟨oj,hoj⟩:∃oj,org[j]? = some oj:=⟨_,List.getElem?_eq_getElem (by omega)⟩
   exact (fM hd n3 (by omega) hoj (ih (by omega))).1
 have hstep:stepsF org last=(outStep org need ((List.range last).foldl (outStep org need) (List.replicate (last+1) 0,[])) last).2:=by
  unfold stepsF
  rw [hneed,List.range_succ,List.foldl_append,xV,xW]
 obtain ⟨e1,e2,e3⟩:=fM hd n3 (Nat.le_refl _) ho (key last (by omega))
 rw [hstep]
 obtain ⟨cs,h1,h2⟩:=e1.ok
 have h3:=h2 last (by omega) n2
 have hlt:=(zG.1 h3).1
 have hrl:=lF _ _ h1
 simp only [yW,Nat.zero_add] at hrl
 refine ⟨cs,h1,by omega,?_,e1.len⟩
 suffices h:(outStep org need ((List.range last).foldl (outStep org need) (List.replicate (last+1) 0,[])) last).1.getD last 0+1=(outStep org need ((List.range last).foldl (outStep org need) (List.replicate (last+1) 0,[])) last).2.length by
  rw [←h,uM,List.getD_eq_getElem?_getD,h3];rfl
 rcases hch with hch|⟨hf,o2,ho2,hk2⟩
 ·exact e2 n2 (.inr hch)
 ·by_cases hch:o.chain=[]
  ·obtain ⟨g1,g2⟩:=e3 n2 hk hch
   rw [g1,g2]
   have hn:=(n3 last (Nat.le_refl _) o ho n2 hk).1
   obtain ⟨-,e5, -⟩:=fM hd n3 (c:=o.first) (by omega) ho2 (key o.first (by omega))
   have:=e5 hn (.inl hk2)
   have h9:List.range last=List.range o.first++[o.first]:=by rw [←hf,List.range_succ]
   rw [h9,List.foldl_append,xV,xW]
   exact this
  ·exact e2 n2 (.inr hch)
end
structure RefOk (f:Form) (l:List Stp):Prop where
 r:∃cs,gE f [] l=(cs,true)∧0<l.length∧cs.getD (l.length-1) []=[]
 len:l.length<LIM
 st:∀s∈l,1≤s.kind∧s.kind≤3∧0≤s.index∧s.index≤32768∧s.lits.length≤1000∧(∀x∈s.lits,vr x<1024)∧0≤s.p∧s.p<LIM∧0≤s.q∧s.q<LIM∧0≤s.var∧s.var<1024
section
variable {f fc:Form} {B N h:Nat} {Lo:Int}
def StB (n:Nat) (l:List Stp):Prop:=∀s∈l,1≤s.kind∧s.kind≤3∧0≤s.index∧s.index≤32768∧s.lits.length≤1000∧(∀x∈s.lits,vr x<1024)∧0≤s.p∧s.p<(n:Int)∧0≤s.q∧s.q<(n:Int)∧0≤s.var∧s.var<1024
def PlB (p:List Nat × List Stp):Prop:=∀i,p.1.getD i 0≤p.2.length
theorem chainF_b {c n:Nat}:∀(ch:List (Nat × Int)) (place:List Nat) (cur:Nat) (out:List Stp),c<place.length→PlB (place,out)→cur≤out.length→StB n out→out.length+ch.length<n→(∀l∈ch,vr l.2<1024)→PlB (gW ch place c cur out)∧StB n (gW ch place c cur out).2∧(gW ch place c cur out).2.length=out.length+ch.length∧(gW ch place c cur out).1.length=place.length:=by
 intro ch
 induction ch with
 | nil=>intro place cur out _ h1 _ h2 _ _;exact ⟨h1,h2,by simp [gW],by simp [gW]⟩
 | cons x ch ih =>
  intro place cur out hc h1 h2 h3 h4 h5
  obtain ⟨k,l⟩:=x
  have hk:=h1 k
  simp only at hk
  have hv:=h5 (k,l) (by simp)
  simp only at hv
  simp only [qP] at h4
  have hs:StB n (out++[if l<0 then (⟨3,0,[],cur,place.getD k 0,vr l⟩:Stp) else ⟨3,0,[],place.getD k 0,cur,vr l⟩]):=by
   intro s hs
   rcases zK.1 hs with hs|hs
   ·exact h3 s hs
   ·rw [zI] at hs
    subst hs
    split
    ·exact ⟨by simp,by simp,by simp,by simp,by simp,by simp,by simp,by simp only;omega,by simp only;omega,by simp only;omega,by simp only;omega,by simp only;omega⟩
    ·exact ⟨by simp,by simp,by simp,by simp,by simp,by simp,by simp only;omega,by simp only;omega,by simp only;omega,by simp only;omega,by simp only;omega,by simp only;omega⟩
  rw [gW]
  obtain ⟨a1,a2,a3,a4⟩:=ih (place.set c out.length) out.length (out++[if l<0 then (⟨3,0,[],cur,place.getD k 0,vr l⟩:Stp) else ⟨3,0,[],place.getD k 0,cur,vr l⟩]) (by simpa using hc) (fun i=>by
   simp only
   rw [wW _ _ _ _ _ hc,zH,qL]
   have:=h1 i
   simp only at this
   split<;>omega) (by simp) hs (by simp;omega) (fun l2 h=>h5 l2 (by simp [h]))
  exact ⟨a1,a2,by rw [a3];simp;omega,by rw [a4];simp⟩
theorem stepsF_b {last:Nat} {org:List Org} {nmc:Nat→List Int} (hl:last<org.length) (hd:∀c o,org[c]? = some o→DerOk f B nmc c o) {n:Nat} (hn:(last+1) * (2 * B+1)<n):StB n (stepsF org last):=by
 have key:∀j,j≤last+1→∀need,PlB ((List.range j).foldl (outStep org need) (List.replicate (last+1) 0,[]))∧StB n ((List.range j).foldl (outStep org need) (List.replicate (last+1) 0,[])).2 ∧
   ((List.range j).foldl (outStep org need) (List.replicate (last+1) 0,[])).2.length≤j * (2 * B+1)∧((List.range j).foldl (outStep org need) (List.replicate (last+1) 0,[])).1.length=last+1:=by
  intro j
  induction j with
  | zero =>
   intro _ need
   refine ⟨fun i => ?_,by intro s hs;simp at hs,by simp,by simp⟩
   simp only [List.range_zero,xW,yW]
   rw [List.getD_eq_getElem?_getD,List.getElem?_replicate];split<;>simp
  | succ j ih =>
   intro hj need
   obtain ⟨a1,a2,a3,a4⟩:=ih (by omega) need
   rw [List.range_succ,List.foldl_append,xV,xW]
   generalize (List.range j).foldl (outStep org need) (List.replicate (last+1) 0,[])=p at a1 a2 a3 a4
   have hmul:(j+1) * (2 * B+1)=j * (2 * B+1)+(2 * B+1):=by rw [wH];omega
   have hle:(j+1) * (2 * B+1)≤(last+1) * (2 * B+1):=kW _ hj
   obtain ⟨o,ho⟩:∃o,org[j]? = some o:=⟨_,List.getElem?_eq_getElem (by omega)⟩
   have hdo:=hd j o ho
   unfold outStep
   rw [ho]
   simp only
   split
   ·split
    ·rename_i hk
     refine ⟨fun i => ?_,fun s hs => ?_,by simp;omega,by simp [a4]⟩
     ·simp only
      rw [wW _ _ _ _ _ (by omega),zH,qL]
      have:=a1 i
      split<;>omega
     ·rcases zK.1 hs with hs|hs
      ·exact a2 s hs
      ·rw [zI] at hs
       subst hs
       obtain ⟨l1,l2,l3,l4,l5,l6,l7⟩:=hdo.ll
       have hkd:=hdo.kd
       exact ⟨by omega,by omega,l3,l4,l1,l2,by omega,by omega,by omega,by omega,by omega,by omega⟩
    ·rename_i hk
     have hcl:=hdo.cl
     obtain ⟨b1,b2,b3,b4⟩:=chainF_b (c:=j) (n:=n) o.chain (p.1.set j (p.1.getD o.first 0)) (p.1.getD o.first 0) p.2 (by simp;omega) (fun i=>by
      simp only
      rw [wW _ _ _ _ _ (by omega)]
      split
      ·exact a1 _
      ·exact a1 i) (a1 _) a2 (by omega) (fun l hl=>(hdo.ch l hl).2.2)
     exact ⟨b1,b2,by rw [b3];omega,by rw [b4];simp [a4]⟩
   ·exact ⟨a1,a2,by omega,a4⟩
 exact (key (last+1) (Nat.le_refl _) (needF org last)).2.1
theorem nX (hq:SolQ f B N) {s:Sol} (hs:SolI f fc B N s h Lo) (hst:s.e.st=[]) {c:Nat} (hc:c<s.e.cls.length) (hfalse:∀x∈s.e.cl c, -x∈s.e.tr) (hbig:(s.e.cls.length+B+2) * (2 * B+1)<LIM)
  (hempty:s.e.cl c=[]→c+1=s.e.cls.length∧∃o,s.org[c]? = some o∧o.leaf.kind≠0) {fuel:Nat} (hfu:B<fuel):∃l,refuteF fuel s c=some l∧RefOk f l:=by
 have hbl:=hq.bl
 have hfc:=hs.g.c c hc
 have hf1:=dA hbl hfc
 have hsmall:s.e.cls.length+B+2<LIM:=uN (Nat.le_mul_of_pos_right _ (by omega)) hbig
 obtain ⟨s1,ch,cur,u1,u2,u3,u4,u5,u6,u7,u8⟩:=oZ hq (fuel:=fuel) (n0:=s.e.nmc c) (s.e.cl c) s [] (s.e.nmc c) hs hfu (aX hfc.2) (fun x hx=>by
   obtain ⟨p,hp⟩:=yF (hfalse x hx)
   exact ⟨p,hp,fun s' h'=>by rw [hst] at h';simp at h'⟩) (fun x hx=>(hf1.2.2 x).2 hx) (fun z hz=>by
   have hz1:=(hf1.2.2 z).1 hz
   refine ⟨hfc.1 z hz1,fun h2 => ?_⟩
   have h3:=(hf1.2.2 _).1 h2
   have:=dY hfc.2 hz1 h3 (by rw [vr_neg])
   have:=(wT.1 (hfc.1 z hz1)).1
   omega) hf1.2.1 rfl (by intro k hk;simp at hk) (by simp;have:=fine_len hfc;omega) (by omega)
 have hcur:cur=[]:=by
  rw [kG]
  intro z hz
  have:=(u6 z).1 hz
  exact this.2 ((hf1.2.2 z).1 this.1)
 subst hcur
 have hcnt:=u3.cnt
 have hu1:=dQ u2.d
 have hlim1:s1.e.cls.length<LIM:=by omega
 have hadd:s1.addF [] ⟨wV,c,ch⟩=some { s1 with e:=s1.e.push [],org:=s1.org++[⟨wV,c,ch⟩] }:=by
  unfold Sol.addF
  rw [if_pos ⟨hlim1,by rw [u2.d.ol];exact hlim1⟩]
  rfl
 have hc1:c<s1.e.cls.length:=qD hc u3.len
 have hpcl:∀d,d<s1.e.cls.length→(s1.e.push []).cl d=s1.e.cl d:=fun d hd=>by rw [s1.e.push_cl,if_neg (by omega)]
 have hnew:(s1.e.push []).cl s1.e.cls.length=[]:=by rw [s1.e.push_cl,if_pos rfl]
 have hder:DerOk f B (s1.e.push []).nmc s1.e.cls.length ⟨wV,c,ch⟩:=by
  refine ⟨.inl rfl,fun h=>absurd h (by simp [wV]),fun h=>absurd h (by simp [wV]),fun _ => ?_,fun _=>hc1,u7,u8,fun h=>absurd rfl h,by simp [wV],by simp [wV],by simp [wV],by simp [wV],rfl,rfl,rfl⟩
  show gU _ (nm ((s1.e.push []).cl c)) ch=some (nm ((s1.e.push []).cl s1.e.cls.length))
  rw [hnew,hpcl c hc1,u3.cl hc,dW (nmc:=s1.e.nmc) (n:=s1.e.cls.length) (fun k hk=>by show nm _=nm _;rw [hpcl k hk]) (fun k hk=>(u7 k hk).1)]
  exact u4
 have hd2:DvI f B { s1 with e:=s1.e.push [],org:=s1.org++[⟨wV,c,ch⟩] }:=u2.d.push hder
 have hol:(s1.org++[(⟨wV,c,ch⟩:Org)]).length=(s1.e.push []).cls.length:=hd2.ol
 have hplen:=s1.e.push_len []
 have hlast:(s1.org++[(⟨wV,c,ch⟩:Org)])[s1.e.cls.length]? = some ⟨wV,c,ch⟩:=by
  rw [zL (by rw [u2.d.ol];exact Nat.le_refl _),u2.d.ol];simp
 have hbnd:(s1.e.cls.length+1) * (2 * B+1)≤(s.e.cls.length+B+2) * (2 * B+1):=kW _ (by omega)
 have hch:ch≠[]∨(c+1=s1.e.cls.length∧∃o2,(s1.org++[(⟨wV,c,ch⟩:Org)])[c]? = some o2∧o2.leaf.kind≠0):=by
  by_cases hch:ch=[]
  ·right
   subst hch
   have hnn:s.e.nmc c=[]:=by
    have:gU s1.e.nmc (s.e.nmc c) []=some (s.e.nmc c):=rfl
    rw [this] at u4
    injection u4
   have hce:s.e.cl c=[]:=by
    rw [kG]
    intro z hz
    have:=(hf1.2.2 z).2 hz
    have h9:nm (s.e.cl c)=[]:=hnn
    rw [h9] at this
    simp at this
   obtain ⟨g1,o,g2,g3⟩:=hempty hce
   have hu:unitsF fuel s (s.e.cl c) []=some (s,[]):=by rw [hce];rfl
   rw [hu] at u1
   injection u1 with u1
   injection u1 with u1 _
   subst u1
   refine ⟨g1,o,?_,g3⟩
   rw [zP (by rw [u2.d.ol];exact hc)]
   exact g2
  ·exact .inl hch
 obtain ⟨cs,k1,k2,k3,k4⟩:=stepsF_ok (f:=f) (B:=B) (nmc:=(s1.e.push []).nmc) (org:=s1.org++[⟨wV,c,ch⟩]) (last:=s1.e.cls.length) (by omega) hd2.dv hlast rfl hch
 have hlen:(stepsF (s1.org++[⟨wV,c,ch⟩]) s1.e.cls.length).length<LIM:=by omega
 have horg:∀d,d<(s1.org++[(⟨wV,c,ch⟩:Org)]).length→∀o,(s1.org++[(⟨wV,c,ch⟩:Org)])[d]? = some o→orgOk (s1.org++[(⟨wV,c,ch⟩:Org)]).length o=true:=by
  intro d hd o ho
  have h1:=hd2.dv d o ho
  unfold orgOk
  simp only [xO,qO,qM]
  refine ⟨⟨?_,fun l hl => ?_⟩,?_⟩
  ·by_cases hk:o.leaf.kind=0
   ·have:=h1.fi hk;omega
   ·have:=(h1.f0 hk).1;omega
  ·obtain ⟨a1,a2,a3⟩:=h1.ch l hl
   unfold vr at a3
   exact ⟨by omega,a2,by omega,by omega⟩
  ·have:=h1.cl;unfold LIM;omega
 refine ⟨stepsF (s1.org++[⟨wV,c,ch⟩]) s1.e.cls.length,?_,⟨cs,k1,k2,?_⟩,hlen,?_⟩
 ·unfold refuteF
  rw [if_pos hc,u1]
  simp only
  rw [hadd]
  simp only
  rw [if_pos ⟨hol,horg,hlen⟩]
 ·rw [k3]
  show nm ((s1.e.push []).cl s1.e.cls.length)=[]
  rw [hnew];rfl
 ·exact stepsF_b (f:=f) (B:=B) (nmc:=(s1.e.push []).nmc) (last:=s1.e.cls.length) (org:=s1.org++[⟨wV,c,ch⟩]) (by omega) hd2.dv (n:=LIM) (uN hbnd hbig)
end
section
variable {f fc:Form} {B N h:Nat} {Lo:Int}
theorem up_fine {B:Nat} {l:List Int} (h1:Up l) (h2:∀x∈l,litB B x=true):Fine B l:=by
 refine ⟨h2,?_⟩
 unfold List.Nodup
 rw [yS]
 refine kE (fun {a b} ha hb hlt e => ?_) h1
 have:=(wT.1 (h2 a ha)).1
 have:=(wT.1 (h2 b hb)).1
 unfold vr at e
 omega
def Form.with (f:Form) (gs:List (List Int)):Form:=⟨f.ints,f.bools,f.atoms,gs⟩
structure Load (f:Form) (B:Nat) (gs:List (List Int)) (e:Eng):Prop where
 i:EngI (f.with gs) B e 0
 st:e.st=[]
 hd:e.hd=0
 il:e.inp.length=e.cls.length
 ip:∀c k,e.inp[c]? = some k→∃g,gs[k]? = some g∧gB g=some (e.nmc c)
theorem Load.new (f:Form) (B:Nat):Load f B [] (Eng.new B):=by
 refine ⟨⟨TrI.new B,fun c hc=>by simp [Eng.new] at hc,⟨by simp [Eng.new],by simp [Eng.new],by simp [Eng.new],by simp [Eng.new]⟩,⟨by simp [Eng.new],by simp [Eng.new],by simp [Eng.new]⟩,fun g hg=>by simp [Form.with] at hg,fun p l hp=>by simp [Eng.new] at hp⟩,rfl,rfl,rfl,by simp [Eng.new]⟩
theorem Load.skip {gs:List (List Int)} {e:Eng} (h:Load f B gs e) {g:List Int} (hg:gB g=none):Load f B (gs++[g]) e:=by
 refine ⟨⟨h.i.t,h.i.c,h.i.l,h.i.w,fun g' hg' => ?_,h.i.r⟩,h.st,h.hd,h.il,fun c k hc => ?_⟩
 ·have hg2:g'∈gs++[g]:=hg'
  rcases zK.1 hg2 with hg2|hg2
  ·exact h.i.i g' hg2
  ·rw [zI] at hg2;rw [hg2];exact .inl hg
 ·obtain ⟨g',h1,h2⟩:=h.ip c k hc
  exact ⟨g',by rw [zP ((zG.1 h1).1)];exact h1,h2⟩
def Eng.take (e:Eng) (cl:List Int) (i:Nat):Eng:={ e with cls:=e.cls++[cl],inp:=e.inp++[i] }
theorem Load.taken {gs:List (List Int)} {e:Eng} (h:Load f B gs e) {cl:List Int} (hf:Fine B cl) {g:List Int} (hg:gB g=some cl) (hB:B≤1024) :
  EngI (f.with gs) B (e.take cl gs.length) 0∧(e.take cl gs.length).inp.length=(e.take cl gs.length).cls.length∧(∀c k,(e.take cl gs.length).inp[c]? = some k→∃g',(gs++[g])[k]? = some g'∧gB g'=some ((e.take cl gs.length).nmc c))∧(e.take cl gs.length).cl e.cls.length=cl∧cl=nm cl:=by
 have hp:=h.i.push hf
 have hnew:(e.push cl).cl e.cls.length=cl:=by rw [e.push_cl,if_pos rfl]
 have hcn:cl=nm cl:=by
  have hs:=gV g
  rw [hg] at hs
  exact nm_eq hs.1 (fun z=>wD) hB hf
 refine ⟨⟨⟨hp.t.vl,hp.t.rl,hp.t.ll,hp.t.v3,hp.t.lits,hp.t.nd,hp.t.tr⟩,hp.c,⟨hp.l.sp,hp.l.sl,hp.l.hd,hp.l.lv⟩,⟨hp.w.w1,hp.w.w3,hp.w.w4⟩,hp.i,hp.r⟩,by simp [Eng.take,h.il],fun c k hc => ?_,hnew,hcn⟩
 have hc2:(e.inp++[gs.length])[c]? = some k:=hc
 by_cases hlt:c<e.inp.length
 ·rw [zP hlt] at hc2
  obtain ⟨g',h1,h2⟩:=h.ip c k hc2
  refine ⟨g',by rw [zP ((zG.1 h1).1)];exact h1,?_⟩
  rw [h2]
  congr 1
  show nm (e.cl c)=nm ((e.push cl).cl c)
  rw [e.push_cl,if_neg (by have:=h.il;omega)]
 ·have h1:=(zG.1 hc2).1
  have h2:c=e.inp.length:=by simp at h1;omega
  subst h2
  rw [zL (Nat.le_refl _)] at hc2
  simp at hc2
  subst hc2
  refine ⟨g,by rw [zL (Nat.le_refl _)];simp,?_⟩
  rw [hg]
  congr 1
  show cl=nm ((e.push cl).cl e.inp.length)
  rw [h.il,hnew]
  exact hcn
theorem InI.more {gs:List (List Int)} {e:Eng} {g:List Int} {n:List Int} (h:InI (f.with gs) e) (hg:gB g=some n) {c:Nat} (hc:c<e.cls.length) (hn:n=e.nmc c) (hok:(2≤(e.cl c).length∧c∈e.wat (e.g0 c))∨∃l,e.cl c=[l]∧l∈e.tr∧∀s∈e.st,l∈e.tr.take s):InI (f.with (gs++[g])) e:=by
 intro g' hg'
 have hg2:g'∈gs++[g]:=hg'
 rcases zK.1 hg2 with hg2|hg2
 ·exact h g' hg2
 ·rw [zI] at hg2;rw [hg2]
  exact .inr ⟨c,hc,by rw [hg,hn],hok⟩
theorem EngI.attach0 {e:Eng} (hi:EngI fc B e 0) {c:Nat} (hc:c<e.cls.length) (hnew:∀l,c∉e.wat l) (h2:2≤(e.cl c).length):EngI fc B (e.attach c) 0∧c∈(e.attach c).wat (e.g0 c):=by
 have hfc:=hi.c c hc
 have h01:e.g0 c≠e.g1 c:=hfc.ne (by omega) h2 (by omega)
 have hwat:∀l,(e.attach c).wat l=if l=e.g1 c then e.wat l++[c] else if l=e.g0 c then e.wat l++[c] else e.wat l:=fun l=>by
  show upd (upd e.wat (e.g0 c) (e.wat (e.g0 c)++[c])) (e.g1 c) (upd e.wat (e.g0 c) (e.wat (e.g0 c)++[c]) (e.g1 c)++[c]) l=_
  rw [gM]
  by_cases h1:l=e.g1 c
  ·rw [if_pos h1,if_pos h1,gM,if_neg (fun e3=>h01 e3.symm),h1]
  ·rw [if_neg h1,if_neg h1,gM]
   by_cases h3:l=e.g0 c
   ·rw [if_pos h3,if_pos h3,h3]
   ·rw [if_neg h3,if_neg h3]
 have hmem:∀l d,d≠c→(d∈(e.attach c).wat l↔d∈e.wat l):=fun l d hd=>by
  rw [hwat]
  split
  ·simp [hd]
  ·split
   ·simp [hd]
   ·exact wD
 have hmemc:∀l,c∈(e.attach c).wat l↔l=e.g0 c∨l=e.g1 c:=fun l=>by
  rw [hwat]
  by_cases h1:l=e.g1 c
  ·rw [if_pos h1];simp [h1]
  ·rw [if_neg h1]
   by_cases h3:l=e.g0 c
   ·rw [if_pos h3];simp [h3]
   ·rw [if_neg h3];simp [h1,h3,hnew l]
 refine ⟨⟨⟨hi.t.vl,hi.t.rl,hi.t.ll,hi.t.v3,hi.t.lits,hi.t.nd,hi.t.tr⟩,hi.c,⟨hi.l.sp,hi.l.sl,hi.l.hd,hi.l.lv⟩,⟨fun l d hd => ?_,fun d hd => ?_,fun l => ?_⟩,fun g hg => ?_,hi.r⟩,(hmemc _).2 (.inl rfl)⟩
 ·show d<e.cls.length∧2≤(e.cl d).length∧(l=e.g0 d∨l=e.g1 d)∧d∈(e.attach c).wat (e.g0 d)∧d∈(e.attach c).wat (e.g1 d)
  by_cases e2:d=c
  ·subst e2
   exact ⟨hc,h2,(hmemc l).1 hd,(hmemc _).2 (.inl rfl),(hmemc _).2 (.inr rfl)⟩
  ·rw [hmem _ _ e2,hmem _ _ e2]
   exact hi.w.w1 l d ((hmem l d e2).1 hd)
 ·exact ⟨fun hm=>by simp at hm,fun hm=>by simp at hm⟩
 ·have app:∀m:List Nat,m.Nodup→c∉m→(m++[c]).Nodup:=fun m a b=>by
   rw [qJ]
   refine ⟨a,by simp,fun x hx y hy e2 => ?_⟩
   rw [zI] at hy
   subst hy e2
   exact b hx
  rw [hwat]
  split
  ·exact app _ (hi.w.w4 _) (hnew _)
  ·split
   ·exact app _ (hi.w.w4 _) (hnew _)
   ·exact hi.w.w4 l
 ·rcases hi.i g hg with h|⟨d,h1,h3,h4⟩
  ·exact .inl h
  ·refine .inr ⟨d,h1,h3,?_⟩
   rcases h4 with ⟨h4,h5⟩|h4
   ·refine .inl ⟨h4,?_⟩
    show d∈(e.attach c).wat (e.g0 d)
    by_cases e2:d=c
    ·subst e2;exact absurd h5 (hnew _)
    ·exact (hmem _ d e2).2 h5
   ·exact .inr h4
theorem loadF_ok (hB:B≤1024):∀(rest gs:List (List Int)) (e:Eng),Load f B gs e→(∀g∈rest,∀x∈g,litB B x=true) →
  ∃e2 r,dG gB gs.length rest e=some (e2,r)∧e2.cls.length≤e.cls.length+rest.length ∧
   ((r = -1∧Load f B (gs++rest) e2)∨(∃c:Nat,r=c∧c+1=e2.cls.length∧e2.st=[]∧e2.hd=0∧EngI (f.with []) B e2 0∧(∀x∈e2.cl c, -x∈e2.tr)∧e2.inp.length=e2.cls.length∧∀c k,e2.inp[c]? = some k→∃g,(gs++rest)[k]? = some g∧gB g=some (e2.nmc c))):=by
 intro rest
 induction rest with
 | nil=>intro gs e h _;exact ⟨e, -1,rfl,by simp, .inl ⟨rfl,by simpa using h⟩⟩
 | cons g rest ih =>
  intro gs e h hl
  have hgs:gs++g::rest=(gs++[g])++rest:=by simp
  have hlen:(gs++[g]).length=gs.length+1:=by simp
  have weaken:∀{e':Eng} {gs':List (List Int)},EngI (f.with gs') B e' 0→EngI (f.with []) B e' 0:=fun hi=>⟨hi.t,hi.c,hi.l,hi.w,fun g hg=>by simp [Form.with] at hg,hi.r⟩
  rw [dG]
  cases hn:gB g with
  | none =>
   simp only
   obtain ⟨e2,r,q1,q2,q3⟩:=ih (gs++[g]) e (h.skip hn) (fun g' hg'=>hl g' (by simp [hg']))
   rw [hlen] at q1
   refine ⟨e2,r,q1,by simp;omega,?_⟩
   rw [hgs];exact q3
  | some cl =>
   have hs:=gV g
   rw [hn] at hs
   have hlit:∀x∈cl,litB B x=true:=fun x hx=>hl g (by simp) x ((hs.2.1 x).1 hx)
   have hf:=up_fine hs.1 hlit
   obtain ⟨t1,t2,t3,t4,t5⟩:=h.taken hf hn hB
   have hcl:(e.take cl gs.length).cls.length=e.cls.length+1:=by simp [Eng.take]
   have ext:∀{e':Eng},e'.inp=(e.take cl gs.length).inp→(∀c,e'.cl c=(e.take cl gs.length).cl c)→∀(tail:List (List Int)) c k,e'.inp[c]? = some k→∃g',((gs++[g])++tail)[k]? = some g'∧gB g'=some (e'.nmc c):=by
    intro e' h1 h2 tail c k hc
    rw [h1] at hc
    obtain ⟨g',a1,a2⟩:=t3 c k hc
    refine ⟨g',by rw [zP ((zG.1 a1).1)];exact a1,?_⟩
    rw [a2]
    unfold Eng.nmc
    rw [h2]
   have hnm:cl=(e.take cl gs.length).nmc e.cls.length:=by unfold Eng.nmc;rw [t4];exact t5
   simp only
   rw [h.i.t.vl,if_pos (qM.2 hlit)]
   rcases cl with _|⟨l,_|⟨b,cl⟩⟩
   ·simp only
    refine ⟨_,_,rfl,by simp, .inr ⟨e.cls.length,rfl,by simp,h.st,h.hd,weaken t1,fun x hx => ?_,t2,?_⟩⟩
    ·have hx2:x∈(e.take [] gs.length).cl e.cls.length:=hx
     rw [t4] at hx2;simp at hx2
    ·rw [hgs];exact ext rfl (fun _=>rfl) rest
   ·simp only
    have hll:=hlit l (by simp)
    by_cases h1:tv e.val l<0
    ·rw [if_pos h1]
     refine ⟨_,_,rfl,by simp, .inr ⟨e.cls.length,rfl,by simp,h.st,h.hd,weaken t1,fun x hx => ?_,t2,?_⟩⟩
     ·have hx2:x∈(e.take [l] gs.length).cl e.cls.length:=hx
      rw [t4,zI] at hx2
      subst hx2
      show -x∈e.tr
      rw [←h.i.t.false_ hll]
      have:=h.i.t.three x
      omega
     ·rw [hgs];exact ext rfl (fun _=>rfl) rest
    ·rw [if_neg h1]
     by_cases h2:tv e.val l=0
     ·rw [if_pos h2]
      have hga:Grow (e.take [l] gs.length) ((e.take [l] gs.length).assign l e.cls.length):=eK t1.t hll h2 (by rw [hcl];omega) (by rw [t4];simp) (fun x hx hne=>by rw [t4,zI] at hx;exact absurd hx hne)
      have hst:((e.take [l] gs.length).assign l e.cls.length).st=[]:=h.st
      have hL:Load f B (gs++[g]) ((e.take [l] gs.length).assign l e.cls.length):=by
       refine ⟨⟨t1.t.assign hll h2,hga.cli t1.c,t1.l.grow hga,⟨t1.w.w1,fun d hd=>⟨fun hm=>by simp at hm,fun hm=>by simp at hm⟩,t1.w.w4⟩,?_,t1.r.grow hga⟩,h.st,h.hd,t2,by simpa using ext (e':=(e.take [l] gs.length).assign l e.cls.length) rfl (fun _=>rfl) []⟩
       refine InI.more (InI.grow t1.i t1.l hga (fun _ h=>h)) hn (c:=e.cls.length) (by show _<(e.take [l] gs.length).cls.length;rw [hcl];omega) hnm (.inr ⟨l,t4,?_,fun s hs => ?_⟩)
       ·show l∈e.tr++[l];simp
       ·rw [hst] at hs;simp at hs
      obtain ⟨e2,r,q1,q2,q3⟩:=ih (gs++[g]) _ hL (fun g' hg'=>hl g' (by simp [hg']))
      rw [hlen] at q1
      refine ⟨e2,r,q1,?_,?_⟩
      ·have:((e.take [l] gs.length).assign l e.cls.length).cls.length=e.cls.length+1:=hcl
       simp only [qP];omega
      ·rw [hgs];exact q3
     ·rw [if_neg h2]
      have hL:Load f B (gs++[g]) (e.take [l] gs.length):=by
       refine ⟨⟨t1.t,t1.c,t1.l,t1.w,?_,t1.r⟩,h.st,h.hd,t2,by simpa using ext (e':=e.take [l] gs.length) rfl (fun _=>rfl) []⟩
       refine InI.more t1.i hn (c:=e.cls.length) (by rw [hcl];omega) hnm (.inr ⟨l,t4,?_,fun s hs => ?_⟩)
       ·show l∈e.tr
        rw [←h.i.t.tr l hll]
        have:=h.i.t.three l
        omega
       ·have hs2:s∈e.st:=hs
        rw [h.st] at hs2;simp at hs2
      obtain ⟨e2,r,q1,q2,q3⟩:=ih (gs++[g]) _ hL (fun g' hg'=>hl g' (by simp [hg']))
      rw [hlen] at q1
      refine ⟨e2,r,q1,?_,?_⟩
      ·simp only [qP];omega
      ·rw [hgs];exact q3
   ·simp only
    obtain ⟨w1,w2⟩:=t1.attach0 (c:=e.cls.length) (by rw [hcl];omega) (fun l hm=>by
     have:=(h.i.w.w1 l _ hm).1
     omega) (by rw [t4];simp)
    have hL:Load f B (gs++[g]) ((e.take (l::b::cl) gs.length).attach e.cls.length):=by
     refine ⟨⟨w1.t,w1.c,w1.l,w1.w,?_,w1.r⟩,h.st,h.hd,t2,by simpa using ext (e':=(e.take (l::b::cl) gs.length).attach e.cls.length) rfl (fun _=>rfl) []⟩
     exact InI.more w1.i hn (c:=e.cls.length) (by show _<(e.take (l::b::cl) gs.length).cls.length;rw [hcl];omega) hnm (.inl ⟨by show 2≤((e.take (l::b::cl) gs.length).cl e.cls.length).length;rw [t4];simp,w2⟩)
    obtain ⟨e2,r,q1,q2,q3⟩:=ih (gs++[g]) _ hL (fun g' hg'=>hl g' (by simp [hg']))
    rw [hlen] at q1
    refine ⟨e2,r,q1,?_,?_⟩
    ·have:((e.take (l::b::cl) gs.length).attach e.cls.length).cls.length=e.cls.length+1:=hcl
     simp only [qP];omega
    ·rw [hgs];exact q3
end
end Go.Proofs.Yticieifacalocaa
