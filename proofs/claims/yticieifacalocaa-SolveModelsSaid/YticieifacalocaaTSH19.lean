/- SolSteps -/
import Derived.Test.YticieifacalocaaTSH18
namespace Go.Proofs.Yticieifacalocaa
section
variable {f:Form} {B:Nat} {nmc:Nat→List Int} {org:List Org}
theorem mR {cs:List (List Int)} {s:Stp} {c:List Int}:∀(l:List Stp) (a:List (List Int)),wX f a l=(cs,true)→deriv f s cs=some c→wX f a (l++[s])=(cs++[c],true):=by
 intro l
 induction l with
 | nil=>intro a h hd;rw [wX] at h;injection h with h _;subst h;rw [xL,wX,hd];rfl
 | cons x l ih =>
  intro a h hd
  rw [wX] at h
  rw [qT,wX]
  cases e:deriv f x a with
  | none=>rw [e] at h;injection h with _ h;cases h
  | some d=>rw [e] at h;exact ih _ h hd
theorem fD {cs:List (List Int)}:∀(l:List Stp) (a:List (List Int)),wX f a l=(cs,true)→cs.length=a.length+l.length:=by
 intro l
 induction l with
 | nil=>intro a h;rw [wX] at h;injection h with h _;subst h;simp
 | cons x l ih =>
  intro a h
  rw [wX] at h
  cases e:deriv f x a with
  | none=>rw [e] at h;injection h with _ h;cases h
  | some d=>rw [e] at h;have:=ih _ h;simp at this ⊢;omega
def sQ (org:List Org) (need:List Bool) (c:Nat):Prop:=∀o,org[c]? = some o→need.getD c false=true→o.leaf.kind=0→need.getD o.first false=true∧∀l∈o.chain,need.getD l.1 false=true
theorem need_fold {n:Nat}:∀(ch:List (Nat × Int)) (need:List Bool),need.length=n→(∀l∈ch,l.1<n)→(ch.foldl (fun n l=>n.set l.1 true) need).length=n ∧
  (∀i,(ch.foldl (fun n l=>n.set l.1 true) need).getD i false=true↔need.getD i false=true∨∃l∈ch,l.1=i):=by
 intro ch
 induction ch with
 | nil=>intro need hn _;exact ⟨hn,fun i=>by simp⟩
 | cons x ch ih =>
  intro need hn hl
  obtain ⟨a1,a2⟩:=ih (need.set x.1 true) (by simp [hn]) fun l h=>hl l (by simp [h])
  refine ⟨a1,fun i => ?_⟩
  rw [xK,a2,wG _ _ _ _ _ (by rw [hn];exact hl x (by simp))]
  by_cases e:i=x.1
  ·subst e;simp
  ·rw [if_neg e]
   simp only [zV,exists_eq_or_imp]
   constructor
   ·rintro (h|h)
    ·exact .inl h
    ·exact .inr (.inr h)
   ·rintro (h|h|h)
    ·exact .inl h
    ·exact absurd h.symm e
    ·exact .inr h
theorem needF_ok {last:Nat} (hd:∀c o,org[c]? = some o→DerOk f B nmc c o):(needF org last).length=last+1∧(needF org last).getD last false=true∧∀c,c≤last→sQ org (needF org last) c:=by
 have key:∀j,j≤last+1→∃need,(((List.range (last+1)).reverse).take j).foldl (needStep org) ((List.replicate (last+1) false).set last true)=need∧need.length=last+1∧need.getD last false=true∧∀c,last+1-j≤c→c≤last→sQ org need c:=by
  intro j
  induction j with
  | zero =>
   intro _
   refine ⟨_,rfl,by simp,by rw [uD,xP,wG _ _ _ _ _ (by simp),if_pos rfl],fun c h1 h2=>by omega⟩
  | succ j ih =>
   intro hj
   obtain ⟨need,e1,e2,e3,e4⟩:=ih (by omega)
   have hg:((List.range (last+1)).reverse)[j]? = some (last-j):=by
    rw [uZ (by simp;omega),List.length_range,vY (by omega)]
    congr 1
   rw [xI,hg]
   simp only [Option.toList,List.foldl_append,xK,xP,e1]
   cases ho:org[last-j]? with
   | none =>
    have hs:needStep org need (last-j)=need:=by unfold needStep;rw [ho]
    refine ⟨need,hs,e2,e3,fun c h1 h2 => ?_⟩
    by_cases e:c=last-j
    ·subst e;intro o h;rw [ho] at h;cases h
    ·exact e4 c (by omega) h2
   | some o =>
    have hdo:=hd _ o ho
    by_cases hc:need.getD (last-j) false=true∧o.leaf.kind=0
    ·have hs:needStep org need (last-j)=o.chain.foldl (fun n l=>n.set l.1 true) (need.set o.first true):=by unfold needStep;rw [ho];simp only;rw [if_pos hc]
     have hfi:=hdo.fi hc.2
     obtain ⟨b1,b2⟩:=need_fold (n:=last+1) o.chain (need.set o.first true) (by simp [e2]) (fun l h=>by have:=(hdo.ch l h).1;omega)
     have b3:∀i,(o.chain.foldl (fun n l=>n.set l.1 true) (need.set o.first true)).getD i false=true↔need.getD i false=true∨i=o.first∨∃l∈o.chain,l.1=i:=fun i=>by
      rw [b2,wG _ _ _ _ _ (by omega)]
      by_cases e:i=o.first
      ·rw [if_pos e];simp [e]
      ·rw [if_neg e];simp [e]
     refine ⟨_,hs,b1,(b3 _).2 (.inl e3),fun c h1 h2 o2 ho2 hn2 hk => ?_⟩
     have hsame:need.getD c false=true:=by
      rcases (b3 c).1 hn2 with h|h|⟨l,h,e⟩
      ·exact h
      ·omega
      ·have:=(hdo.ch l h).1;omega
     by_cases e:c=last-j
     ·subst e
      rw [ho] at ho2
      injection ho2 with ho2
      subst ho2
      exact ⟨(b3 _).2 (.inr (.inl rfl)),fun l h=>(b3 _).2 (.inr (.inr ⟨l,h,rfl⟩))⟩
     ·obtain ⟨c1,c2⟩:=e4 c (by omega) h2 o2 ho2 hsame hk
      exact ⟨(b3 _).2 (.inl c1),fun l h=>(b3 _).2 (.inl (c2 l h))⟩
    ·have hs:needStep org need (last-j)=need:=by unfold needStep;rw [ho];simp only;rw [if_neg hc]
     refine ⟨need,hs,e2,e3,fun c h1 h2 => ?_⟩
     by_cases e:c=last-j
     ·subst e
      intro o2 ho2 hn hk
      rw [ho] at ho2
      injection ho2 with ho2
      subst ho2
      exact absurd ⟨hn,hk⟩ hc
     ·exact e4 c (by omega) h2
 obtain ⟨need,e1,e2,e3,e4⟩:=key (last+1) (Nat.le_refl _)
 rw [zU (by simp)] at e1
 unfold needF
 rw [e1]
 exact ⟨e2,e3,fun c hc=>e4 c (by omega) hc⟩
theorem chainF_ok {c n:Nat} (hcn:c<n):∀(ch:List (Nat × Int)) (place:List Nat) (cur:Nat) (out:List Stp) (cs:List (List Int)) (m r:List Int),place.length=n→wX f [] out=(cs,true)→cs[cur]? = some m→place.getD c 0=cur→gC nmc m ch=some r→(∀l∈ch,l.1<c∧l.2≠0∧cs[place.getD l.1 0]? = some (nmc l.1)) →
  ∃place2 out2 cs2 more,gE ch place c cur out=(place2,out2)∧place2.length=n∧wX f [] out2=(cs2,true)∧cs2=cs++more∧out2.length=out.length+ch.length∧cs2[place2.getD c 0]? = some r∧(∀d,d≠c→place2.getD d 0=place.getD d 0)∧(ch≠[]→place2.getD c 0+1=out2.length):=by
 intro ch
 induction ch with
 | nil =>
  intro place cur out cs m r h1 h2 h3 h4 h5 _
  simp [gC] at h5
  subst h5
  exact ⟨place,out,cs,[],rfl,h1,h2,by simp,by simp,by rw [h4];exact h3,fun _ _=>rfl,fun h=>absurd rfl h⟩
 | cons x ch ih =>
  intro place cur out cs m r h1 h2 h3 h4 h5 h6
  obtain ⟨k,l⟩:=x
  rw [gC] at h5
  obtain ⟨m2,g1,g2⟩:=yI.1 h5
  obtain ⟨k1,k2,k3⟩:=h6 (k,l) (by simp)
  simp only at k1 k2 k3
  have hlen:=fD _ _ h2
  simp only [xA,qZ] at hlen
  obtain ⟨s,hs,hder⟩:∃s:Stp,(if l<0 then (⟨3,0,[],cur,place.getD k 0,vr l⟩:Stp) else ⟨3,0,[],place.getD k 0,cur,vr l⟩)=s∧deriv f s cs=some m2:=by
   refine ⟨_,rfl,?_⟩
   unfold resL at g1
   by_cases hl:l<0
   ·rw [if_pos hl] at g1 ⊢
    unfold deriv
    rw [if_neg (by simp),if_neg (by simp),if_pos rfl,if_pos ⟨by simp,by simp⟩]
    simp only [Int.toNat_natCast,h3,k3,Option.bind_some]
    exact g1
   ·rw [if_neg hl] at g1 ⊢
    unfold deriv
    rw [if_neg (by simp),if_neg (by simp),if_pos rfl,if_pos ⟨by simp,by simp⟩]
    simp only [Int.toNat_natCast,h3,k3,Option.bind_some]
    exact g1
  have hr2:=mR out [] h2 hder
  have hget:∀d,(place.set c out.length).getD d 0=if d=c then out.length else place.getD d 0:=fun d=>wG _ _ _ _ _ (by omega)
  obtain ⟨place2,out2,cs2,more,q1,q2,q3,q4,q5,q6,q7,q8⟩:=ih (place.set c out.length) out.length (out++[s]) (cs++[m2]) m2 r (by simp [h1]) hr2 (by rw [zL (by omega),hlen];simp) (by rw [hget,if_pos rfl]) g2 (fun l2 h=>by
   obtain ⟨c1,c2,c3⟩:=h6 l2 (by simp [h])
   refine ⟨c1,c2,?_⟩
   rw [hget,if_neg (by omega),zO ((zG.1 c3).1)]
   exact c3)
  refine ⟨place2,out2,cs2,[m2]++more,?_,q2,q3,by rw [q4,qB],by rw [q5];simp;omega,q6,fun d hd=>by rw [q7 d hd,hget,if_neg hd],fun _ => ?_⟩
  ·rw [gE]
   simp only [hs]
   exact q1
  ·cases ch with
   | nil =>
    rw [gE] at q1
    injection q1 with q1 q9
    rw [←q1,←q9,hget,if_pos rfl];simp
   | cons y ch=>exact q8 (by simp)
structure StI (f:Form) (nmc:Nat→List Int) (need:List Bool) (n B c:Nat) (p:List Nat × List Stp):Prop where
 pl:p.1.length=n
 ok:∃cs,wX f [] p.2=(cs,true)∧∀d,d<c→need.getD d false=true→cs[p.1.getD d 0]? = some (nmc d)
 len:p.2.length≤c * (2 * B+1)
theorem eA {last:Nat} (hd:∀c o,org[c]? = some o→DerOk f B nmc c o) {need:List Bool} (hn:∀c,c≤last→sQ org need c) {c:Nat} (hc:c≤last) {o:Org} (ho:org[c]? = some o) {p:List Nat × List Stp} (hp:StI f nmc need (last+1) B c p) :
  StI f nmc need (last+1) B (c+1) (outStep org need p c)∧(need.getD c false=true→o.leaf.kind≠0∨o.chain≠[]→(outStep org need p c).1.getD c 0+1=(outStep org need p c).2.length) ∧
  (need.getD c false=true→o.leaf.kind=0→o.chain=[]→(outStep org need p c).2=p.2∧(outStep org need p c).1.getD c 0=p.1.getD o.first 0):=by
 obtain ⟨cs,h1,h2⟩:=hp.ok
 have hpl:=hp.pl
 have hdo:=hd c o ho
 have hlen:=hp.len
 have hmul:(c+1) * (2 * B+1)=c * (2 * B+1)+(2 * B+1):=by rw [jU];omega
 have hrl:=fD _ _ h1
 simp only [xA,qZ] at hrl
 by_cases hnc:need.getD c false=true
 ·by_cases hk:o.leaf.kind≠0
  ·have hs:outStep org need p c=(p.1.set c p.2.length,p.2++[o.leaf]):=by unfold outStep;rw [ho];simp only;rw [if_pos hnc,if_pos hk]
   have hget:∀d,(p.1.set c p.2.length).getD d 0=if d=c then p.2.length else p.1.getD d 0:=fun d=>wG _ _ _ _ _ (by omega)
   have hder:deriv f o.leaf cs=some (nmc c):=by
    unfold deriv
    rcases hdo.kd with e|e|e
    ·exact absurd e hk
    ·obtain ⟨a1,g,a2,a3⟩:=hdo.k1 e
     rw [if_pos e,if_pos a1,a2]
     exact a3
    ·rw [if_neg (by rw [e];decide),if_pos e]
     exact hdo.k2 e
   rw [hs]
   refine ⟨⟨by simp [hpl],⟨cs++[nmc c],mR _ _ h1 hder,fun d hdc hnd => ?_⟩,by simp only [zJ,qQ];omega⟩,fun _ _=>by simp only [hget,uR];simp,fun _ e=>absurd e hk⟩
   simp only [hget]
   by_cases e:d=c
   ·subst e;rw [if_pos rfl,zL (by omega),hrl];simp
   ·rw [if_neg e]
    have:=h2 d (by omega) hnd
    rw [zO ((zG.1 this).1)]
    exact this
  ·have hk0:o.leaf.kind=0:=qF hk
   have hs:outStep org need p c=gE o.chain (p.1.set c (p.1.getD o.first 0)) c (p.1.getD o.first 0) p.2:=by unfold outStep;rw [ho];simp only;rw [if_pos hnc,if_neg hk]
   have hfi:=hdo.fi hk0
   obtain ⟨n1,n2⟩:=hn c hc o ho hnc hk0
   have hget:∀d,(p.1.set c (p.1.getD o.first 0)).getD d 0=if d=c then p.1.getD o.first 0 else p.1.getD d 0:=fun d=>wG _ _ _ _ _ (by omega)
   obtain ⟨place2,out2,cs2,more,q1,q2,q3,q4,q5,q6,q7,q8⟩:=chainF_ok (f:=f) (nmc:=nmc) (n:=last+1) (c:=c) (by omega) o.chain (p.1.set c (p.1.getD o.first 0)) (p.1.getD o.first 0) p.2 cs (nmc o.first) (nmc c) (by simp [hpl]) h1 (h2 _ hfi n1) (by rw [hget,if_pos rfl]) (hdo.k0 hk0) (fun l hl=>by
    obtain ⟨c1,c2,c3⟩:=hdo.ch l hl
    exact ⟨c1,c2,by rw [hget,if_neg (by omega)];exact h2 _ c1 (n2 l hl)⟩)
   rw [hs,q1]
   refine ⟨⟨q2,⟨cs2,q3,fun d hdc hnd => ?_⟩,by have:=hdo.cl;simp only;omega⟩,fun _ h=>q8 (h.elim (fun h=>absurd hk0 h) id),fun _ _ hch => ?_⟩
   ·simp only
    by_cases e:d=c
    ·subst e;exact q6
    ·rw [q7 d e,hget,if_neg e,q4]
     have:=h2 d (by omega) hnd
     rw [zO ((zG.1 this).1)]
     exact this
   ·rw [hch,gE] at q1
    injection q1 with q1 q9
    simp only
    rw [←q1,←q9]
    exact ⟨rfl,by rw [hget,if_pos rfl]⟩
 ·have hs:outStep org need p c=p:=by unfold outStep;rw [ho];simp only;rw [if_neg hnc]
  rw [hs]
  refine ⟨⟨hpl,⟨cs,h1,fun d hdc hnd => ?_⟩,by omega⟩,fun h=>absurd h hnc,fun h=>absurd h hnc⟩
  by_cases e:d=c
  ·subst e;exact absurd hnd hnc
  ·exact h2 d (by omega) hnd
theorem stepsF_ok {last:Nat} (hl:last<org.length) (hd:∀c o,org[c]? = some o→DerOk f B nmc c o) {o:Org} (ho:org[last]? = some o) (hk:o.leaf.kind=0) (hch:o.chain≠[]∨(o.first+1=last∧∃o2,org[o.first]? = some o2∧o2.leaf.kind≠0)) :
  ∃cs,wX f [] (stepsF org last)=(cs,true)∧0<(stepsF org last).length∧cs.getD ((stepsF org last).length-1) []=nmc last∧(stepsF org last).length≤(last+1) * (2 * B+1):=by
 obtain ⟨n1,n2,n3⟩:=needF_ok (f:=f) (B:=B) (nmc:=nmc) (last:=last) hd
 generalize hneed:needF org last=need at n1 n2 n3
 have key:∀j,j≤last+1→StI f nmc need (last+1) B j ((List.range j).foldl (outStep org need) (List.replicate (last+1) 0,[])):=by
  intro j
  induction j with
  | zero=>intro _;exact ⟨by simp,⟨[],rfl,fun d h=>by omega⟩,by simp⟩
  | succ j ih =>
   intro hj
   rw [List.range_succ,List.foldl_append,xK,xP]
   obtain ⟨oj,hoj⟩:∃oj,org[j]? = some oj:=⟨_,List.getElem?_eq_getElem (by omega)⟩
   exact (eA hd n3 (by omega) hoj (ih (by omega))).1
 have hstep:stepsF org last=(outStep org need ((List.range last).foldl (outStep org need) (List.replicate (last+1) 0,[])) last).2:=by
  unfold stepsF
  rw [hneed,List.range_succ,List.foldl_append,xK,xP]
 obtain ⟨e1,e2,e3⟩:=eA hd n3 (Nat.le_refl _) ho (key last (by omega))
 rw [hstep]
 obtain ⟨cs,h1,h2⟩:=e1.ok
 have h3:=h2 last (by omega) n2
 have hlt:=(zG.1 h3).1
 have hrl:=fD _ _ h1
 simp only [xA,qZ] at hrl
 refine ⟨cs,h1,by omega,?_,e1.len⟩
 suffices h:(outStep org need ((List.range last).foldl (outStep org need) (List.replicate (last+1) 0,[])) last).1.getD last 0+1=(outStep org need ((List.range last).foldl (outStep org need) (List.replicate (last+1) 0,[])) last).2.length by
  rw [←h,Nat.add_sub_cancel,List.getD_eq_getElem?_getD,h3];rfl
 rcases hch with hch|⟨hf,o2,ho2,hk2⟩
 ·exact e2 n2 (.inr hch)
 ·by_cases hch:o.chain=[]
  ·obtain ⟨g1,g2⟩:=e3 n2 hk hch
   rw [g1,g2]
   have hn:=(n3 last (Nat.le_refl _) o ho n2 hk).1
   obtain ⟨-,e5, -⟩:=eA hd n3 (c:=o.first) (by omega) ho2 (key o.first (by omega))
   have:=e5 hn (.inl hk2)
   have h9:List.range last=List.range o.first++[o.first]:=by rw [←hf,List.range_succ]
   rw [h9,List.foldl_append,xK,xP]
   exact this
  ·exact e2 n2 (.inr hch)
end
end Go.Proofs.Yticieifacalocaa
