/- SolLearn -/
import Derived.Test.YticieifacalocaaTSH16
namespace Go.Proofs.Yticieifacalocaa
def unitsOf (s:Sol):Nat:=s.unt.countP fun x=>decide (0≤x)
structure UnitR (s s2:Sol):Prop where
 e:∃m,s2.e={ s.e with cls:=s.e.cls++m }
 num:s2.num=s.num
 arcs:s2.arcs=s.arcs
 act:s2.act=s.act
 acty:s2.acty=s.acty
 rst:s2.rst=s.rst
 cnt:s2.e.cls.length+unitsOf s≤s.e.cls.length+unitsOf s2
theorem UnitR.refl (s:Sol):UnitR s s:=⟨⟨[],by simp⟩,rfl,rfl,rfl,rfl,rfl,Nat.le_refl _⟩
theorem UnitR.trans {a b c:Sol} (h:UnitR a b) (k:UnitR b c):UnitR a c:=by
 refine ⟨?_,k.num.trans h.num,k.arcs.trans h.arcs,k.act.trans h.act,k.acty.trans h.acty,k.rst.trans h.rst,?_⟩
 ·obtain ⟨m,hm⟩:=h.e
  obtain ⟨m2,hm2⟩:=k.e
  exact ⟨m++m2,by rw [hm2,hm,qB]⟩
 ·have:=h.cnt;have:=k.cnt;omega
theorem UnitR.tr {a b:Sol} (h:UnitR a b):b.e.tr=a.e.tr:=by obtain ⟨m,hm⟩:=h.e;rw [hm]
theorem UnitR.st {a b:Sol} (h:UnitR a b):b.e.st=a.e.st:=by obtain ⟨m,hm⟩:=h.e;rw [hm]
theorem UnitR.len {a b:Sol} (h:UnitR a b):a.e.cls.length≤b.e.cls.length:=by obtain ⟨m,hm⟩:=h.e;rw [hm];simp
theorem UnitR.cl {a b:Sol} (h:UnitR a b) {c:Nat} (hc:c<a.e.cls.length):b.e.cl c=a.e.cl c:=by
 obtain ⟨m,hm⟩:=h.e
 rw [hm]
 unfold Eng.cl
 rw [List.getD_eq_getElem?_getD,List.getD_eq_getElem?_getD,zO hc]
theorem UnitR.nmc {a b:Sol} (h:UnitR a b) {c:Nat} (hc:c<a.e.cls.length):b.e.nmc c=a.e.nmc c:=by unfold Eng.nmc;rw [h.cl hc]
section
variable {f fc:Form} {B N h:Nat} {Lo:Int}
theorem lN {l:List Int} {i:Nat} {x:Int} {p:Int→Bool} (hi:i<l.length) (h1:p (l.getD i 0)=false) (h2:p x=true):(l.set i x).countP p=l.countP p+1:=by
 induction l generalizing i with
 | nil=>simp at hi
 | cons y r ih =>
  cases i with
  | zero =>
   simp at h1
   simp [h1,h2]
  | succ i =>
   have:=ih (i:=i) (by simpa using hi) (by simpa using h1)
   rw [zF,kU,kU,this]
   omega
theorem fine_len {l:List Int} (h:Fine B l):l.length≤B:=by
 have:=bX (N:=B) h.2 (fun x hx=>by
  obtain ⟨y,hy,rfl⟩:=List.mem_map.1 hx
  exact (wD.1 (h.1 y hy)).2)
 simpa using this
theorem dD {l:List Int} (h:(l.map vr).Nodup) {x y:Int} (hx:x∈l) (hy:y∈l) (e:vr x=vr y):x=y:=by
 obtain ⟨i,hi,e1⟩:=qL hx
 obtain ⟨j,hj,e2⟩:=qL hy
 unfold List.Nodup at h
 rw [yO,qM] at h
 rcases xJ i j with hij|hij|hij
 ·exact absurd (by rw [e1,e2];exact e) (h i j hi hj hij)
 ·subst hij;rw [←e1,←e2]
 ·exact absurd (by rw [e1,e2];exact e.symm) (h j i hj hi hij)
theorem cO (hB:B≤1024) {x:Int} (h:litB B x=true):wS x=false:=by
 have:=wD.1 h
 simp only [wS,Bool.or_eq_false_iff,beq_eq_false_iff_ne]
 unfold vr at this
 omega
theorem lX {l:Int} (h:litB B l=true):Fine B [l]:=⟨by simpa using h,by simp⟩
theorem gW {s:Sol} (hd:DvI f B s):unitsOf s≤B:=by
 unfold unitsOf
 have:=uY (p:=fun x=>decide (0≤x)) (l:=s.unt)
 rw [hd.ul] at this;exact this
theorem SolI.setUnit {s:Sol} (hs:SolI f fc B N s h Lo) {v c:Nat} (hv:v<B) {l:Int} (hc:c<s.e.cls.length) (hcl:s.e.cl c=[l]) (hvl:vr l=v) (hl:l∈s.e.tr) (hst:∀s'∈s.e.st,l∈s.e.tr.take s'):SolI f fc B N { s with unt:=s.unt.set v c } h Lo:=by
 refine ⟨hs.g,hs.t,⟨hs.d.ol,hs.d.dv,by simp [hs.d.ul],hs.d.al,fun u hu => ?_⟩⟩
 show (s.unt.set v c).getD u 0 = -1∨_
 rw [wG _ _ _ _ _ (by rw [hs.d.ul];exact hv)]
 by_cases e:u=v
 ·subst e
  rw [if_pos rfl]
  exact .inr ⟨c,rfl,hc,l,hcl,hvl,hl,hst⟩
 ·rw [if_neg e]
  exact hs.d.un u hu
theorem unitF_ok (hq:SolQ f B N):∀(n:Nat) (s:Sol) (p:Nat) (l:Int),SolI f fc B N s h Lo→s.e.tr[p]? = some l→(∀s'∈s.e.st,p<s')→p<n→s.e.cls.length+B<LIM+unitsOf s →
  ∃s2 c,dA n s (vr l)=some (s2,c)∧SolI f fc B N s2 h Lo∧UnitR s s2∧c<s2.e.cls.length∧s2.e.cl c=[l]∧∀q y,s.e.tr[q]? = some y→p<q→s2.unt.getD (vr y) 0=s.unt.getD (vr y) 0:=by
 intro n
 induction n with
 | zero=>intro s p l _ _ _ h;omega
 | succ n ih =>
  intro s p l hs hp hst hpn hlim
  have hlm:=List.mem_of_getElem? hp
  have hll:=hs.g.t.lits l hlm
  obtain ⟨l0,l1⟩:=wD.1 hll
  have hul:=hs.d.ul
  have hrl:=hs.g.t.rl
  have hbl:=hq.bl
  have hu1:=gW hs.d
  have htake:∀s'∈s.e.st,l∈s.e.tr.take s':=fun s' h=>by
   have h1:=hst s' h
   refine List.mem_of_getElem? (i:=p) ?_
   rw [qX,if_pos h1];exact hp
  have hoff:∀q y,s.e.tr[q]? = some y→p<q→vr y≠vr l:=fun q y hy hlt e=>by
   have hnd:=hs.g.t.nd
   unfold List.Nodup at hnd
   rw [yO,qM] at hnd
   obtain ⟨a1,a2⟩:=zG.1 hp
   obtain ⟨b1,b2⟩:=zG.1 hy
   exact hnd p q a1 b1 hlt (by rw [a2,b2];exact e.symm)
  rw [dA,if_pos ⟨by omega,by omega⟩]
  rcases hs.d.un (vr l) l1 with hu|⟨c,hc1,hc2,l2,hc3,hc4,hc5, -⟩
  ·rw [if_neg (by omega)]
   obtain ⟨r,r1,r2,r3,r4⟩:=hs.g.r p l hp (fun hm=>by have:=hst p hm;omega)
   have hfr:=hs.g.c r r2
   have hlen:=fine_len hfr
   simp only [r1,Int.toNat_natCast]
   rw [if_pos ⟨by omega,r2,by unfold LIM;omega⟩]
   have hcnt:∀(x:Int),0≤x→∀s1:Sol,s1.unt=s.unt→(s1.unt.set (vr l) x).countP (fun x=>decide (0≤x))=unitsOf s+1:=fun x hx s1 e1=>by
    rw [e1]
    exact lN (by omega) (by rw [hu];rfl) (by simpa using hx)
   by_cases h1:(s.e.cl r).length=1
   ·rw [if_pos h1]
    have hone:s.e.cl r=[l]:=by
     match hh:s.e.cl r,h1 with
     | [y],_=>rw [hh] at r3;simp at r3;rw [r3]
    refine ⟨_,r,rfl,hs.setUnit l1 r2 hone rfl hlm htake,⟨⟨[],by simp⟩,rfl,rfl,rfl,rfl,rfl,?_⟩,r2,hone,fun q y hy hlt=>by
     show (s.unt.set (vr l) (r:Int)).getD _ 0=_
     rw [wG _ _ _ _ _ (by omega),if_neg (hoff q y hy hlt)]⟩
    show s.e.cls.length+unitsOf s≤s.e.cls.length+(s.unt.set (vr l) (r:Int)).countP _
    rw [hcnt r (by omega) s rfl];omega
   ·rw [if_neg h1]
    have hloop:∀(rest done:List Int) (s1:Sol) (own:List Int) (ch:List (Nat × Int)) (cur:List Int),s.e.cl r=done++rest→SolI f fc B N s1 h Lo→UnitR s s1→own=(if l∈done then [l] else []) →
      gC s1.e.nmc (nm (s.e.cl r)) ch=some cur→Up cur→(∀z,z∈cur↔z∈s.e.cl r∧(z∉done∨z=l))→ch.length≤done.length→(∀k∈ch,k.1<s1.e.cls.length∧k.2≠0∧vr k.2<1024)→(∀q y,s.e.tr[q]? = some y→p≤q→s1.unt.getD (vr y) 0=s.unt.getD (vr y) 0) →
      ∃s2 own2 ch2 cur2,rest.foldlM (fun (p:Sol × List Int × List (Nat × Int)) lit =>
       if litB p.1.unt.length lit=true then
        if vr lit=vr l then some (p.1,p.2.1++[lit],p.2.2)
        else (dA n p.1 (vr lit)).map fun q=>(q.1,p.2.1,p.2.2++[(q.2, -lit)])
       else none) (s1,own,ch)=some (s2,own2,ch2)∧SolI f fc B N s2 h Lo∧UnitR s s2∧own2=[l]∧gC s2.e.nmc (nm (s.e.cl r)) ch2=some cur2∧Up cur2∧(∀z,z∈cur2↔z=l)∧ch2.length≤(s.e.cl r).length∧(∀k∈ch2,k.1<s2.e.cls.length∧k.2≠0∧vr k.2<1024)∧(∀q y,s.e.tr[q]? = some y→p≤q→s2.unt.getD (vr y) 0=s.unt.getD (vr y) 0):=by
     intro rest
     induction rest with
     | nil =>
      intro done s1 own ch cur hD g1 g2 g3 g4 g5 g6 g7 g8 g9
      rw [yV] at hD
      rw [hD] at r3
      rw [if_pos r3] at g3
      refine ⟨s1,own,ch,cur,rfl,g1,g2,g3,g4,g5,fun z => ?_,by rw [hD];exact g7,g8,g9⟩
      rw [g6,hD]
      constructor
      ·rintro ⟨a,b|b⟩
       ·exact absurd a b
       ·exact b
      ·intro e;subst e;exact ⟨r3, .inr rfl⟩
     | cons x rest ihr =>
      intro done s1 own ch cur hD g1 g2 g3 g4 g5 g6 g7 g8 g9
      have hxD:x∈s.e.cl r:=by rw [hD];simp
      have hxl:=hfr.1 x hxD
      have hndD:=aE hfr.2
      rw [hD,qG,yU] at hndD
      have hxd:x∉done:=fun hm=>hndD.2.2 x hm x (by simp) rfl
      rw [qW]
      simp only
      rw [g1.d.ul,if_pos hxl]
      by_cases hv:vr x=vr l
      ·have hxe:x=l:=dD hfr.2 hxD r3 hv
       subst hxe
       rw [if_pos rfl]
       rw [if_neg hxd] at g3
       refine ihr (done++[x]) s1 (own++[x]) ch cur (by rw [hD];simp) g1 g2 (by rw [g3];simp) g4 g5 (fun z => ?_) (by simp;omega) g8 g9
       rw [g6]
       constructor
       ·rintro ⟨a,b|b⟩
        ·by_cases e:z=x
         ·exact ⟨a, .inr e⟩
         ·exact ⟨a, .inl (by simp [b,e])⟩
        ·exact ⟨a, .inr b⟩
       ·rintro ⟨a,b|b⟩
        ·exact ⟨a, .inl (fun hm=>b (by simp [hm]))⟩
        ·exact ⟨a, .inr b⟩
      ·rw [if_neg hv]
       have hxne:x≠l:=fun e=>hv (by rw [e])
       obtain ⟨p',hp'⟩:=qV (r4 x hxD hxne)
       rw [qX] at hp'
       split at hp'
       ·rename_i hlt
        have hp1:s1.e.tr[p']? = some (-x):=by rw [g2.tr];exact hp'
        obtain ⟨s2,c,u1,u2,u3,u4,u5,u6⟩:=ih s1 p' (-x) g1 hp1 (fun s' hs'=>by rw [g2.st] at hs';have:=hst s' hs';omega) (by omega) (by have:=g2.cnt;omega)
        rw [vr_neg] at u1
        rw [u1]
        have hnx:litB B (-x)=true:=by rw [bL];exact hxl
        have hf1:=gJ hbl (lX hnx)
        have hxcur:x∈cur:=(g6 x).2 ⟨hxD, .inl hxd⟩
        obtain ⟨cur2,v1,v2,v3⟩:=oG (cur:=cur) (other:=nm [-x]) (l := -x) (by have:=(wD.1 hxl).1;omega) (by rw [vr_neg];have:=(wD.1 hxl).2;omega) (by rw [yJ];exact hxcur) ((hf1.2.2 _).2 (by simp))
         (fun z=>z∈s.e.cl r) (fun z hz hz2=>by
          have:=dD hfr.2 hz hz2 (by rw [vr_neg])
          have:=(wD.1 (hfr.1 z hz)).1
          omega) (fun z hz _=>⟨((g6 z).1 hz).1,cO hbl (hfr.1 z ((g6 z).1 hz).1)⟩) (fun z hz hne=>by
          have:=(hf1.2.2 z).1 hz
          simp at this;exact absurd this hne)
        have hch:gC s2.e.nmc (nm (s.e.cl r)) ch=some cur:=by
         rw [dB (n:=s1.e.cls.length) (fun k hk=>u3.nmc hk) (fun k hk=>(g8 k hk).1)];exact g4
        refine ihr (done++[x]) s2 own (ch++[(c, -x)]) cur2 (by rw [hD];simp) u2 (g2.trans u3) ?_ (aD hch (by unfold Eng.nmc;rw [u5];exact v1)) v2 (fun z => ?_) (by simp;omega) (fun k hk => ?_) (fun q y hy hle=>by rw [u6 q y (by rw [g2.tr];exact hy) (by omega)];exact g9 q y hy hle)
        ·rw [g3]
         simp only [zK,zH]
         by_cases e:l∈done
         ·rw [if_pos e,if_pos (.inl e)]
         ·rw [if_neg e,if_neg (by simp only [jG];exact ⟨e,fun e2=>hxne e2.symm⟩)]
        ·rw [v3,g6,yJ]
         constructor
         ·rintro (⟨⟨a,b⟩,c⟩|⟨a,b⟩)
          ·refine ⟨a,?_⟩
           rcases b with b|b
           ·exact .inl (by simp [b,c])
           ·exact .inr b
          ·have:=(hf1.2.2 z).1 a
           simp at this;exact absurd this b
         ·rintro ⟨a,b|b⟩
          ·simp only [zK,zH,jG] at b
           exact .inl ⟨⟨a, .inl b.1⟩,b.2⟩
          ·exact .inl ⟨⟨a, .inr b⟩,fun e=>hxne (e ▸ b)⟩
        ·rcases zK.1 hk with hk|hk
         ·have:=g8 k hk;have:=u3.len;omega
         ·rw [zH] at hk;subst hk
          exact ⟨u4,(wD.1 hnx).1,by have:=(wD.1 hnx).2;show vr (-x)<1024;omega⟩
       ·cases hp'
    obtain ⟨s1,own,ch,cur,k1,k2,k3,k4,k5,k6,k7,k8,k9,k10⟩:=hloop (s.e.cl r) [] s [] [] (nm (s.e.cl r)) rfl hs (UnitR.refl s) rfl rfl (gJ hbl hfr).2.1 (fun z=>by rw [(gJ hbl hfr).2.2];simp) (Nat.le_refl _) (by simp) (fun _ _ _ _=>rfl)
    rw [k1]
    simp only
    subst k4
    have hlim1:s1.e.cls.length<LIM:=by have:=k3.cnt;have:=gW k2.d;omega
    have hadd:s1.addF [l] ⟨wF,r,ch⟩=some { s1 with e:=s1.e.push [l],org:=s1.org++[⟨wF,r,ch⟩] }:=by
     unfold Sol.addF
     rw [if_pos ⟨hlim1,by rw [k2.d.ol];exact hlim1⟩]
     rfl
    rw [hadd]
    have hf1:=lX hll
    have hr1:r<s1.e.cls.length:=by have:=k3.len;omega
    have hpcl:∀c,c<s1.e.cls.length→(s1.e.push [l]).cl c=s1.e.cl c:=fun c hc=>by rw [s1.e.push_cl,if_neg (by omega)]
    have hnew:(s1.e.push [l]).cl s1.e.cls.length=[l]:=by rw [s1.e.push_cl,if_pos rfl]
    have hder:DerOk f B (s1.e.push [l]).nmc s1.e.cls.length ⟨wF,r,ch⟩:=by
     refine ⟨.inl rfl,fun h=>absurd h (by simp [wF]),fun h=>absurd h (by simp [wF]),fun _ => ?_,fun _=>hr1,k9,by show ch.length≤2 * B;omega,fun h=>absurd rfl h,by simp [wF],by simp [wF],by simp [wF],by simp [wF],rfl,rfl,rfl⟩
     show gC _ (nm ((s1.e.push [l]).cl r)) ch=some (nm ((s1.e.push [l]).cl s1.e.cls.length))
     rw [hnew,hpcl r hr1,k3.cl r2,dB (nmc:=s1.e.nmc) (n:=s1.e.cls.length) (fun k hk=>by show nm _=nm _;rw [hpcl k hk]) (fun k hk=>(k9 k hk).1),k5]
     congr 1
     exact nm_eq k6 (fun z=>by rw [k7];simp) hbl hf1
    have hs3:SolI f fc B N { s1 with e:=s1.e.push [l],org:=s1.org++[⟨wF,r,ch⟩] } h Lo:=⟨k2.g.push hf1,k2.t,k2.d.push hder⟩
    have hlm1:l∈s1.e.tr:=by rw [k3.tr];exact hlm
    refine ⟨_,_,rfl,hs3.setUnit l1 (by show _<(s1.e.push [l]).cls.length;rw [s1.e.push_len];omega) hnew rfl hlm1 (fun s' h => ?_),?_,by show _<(s1.e.push [l]).cls.length;rw [s1.e.push_len];omega,hnew,fun q y hy hlt=>by
     show (s1.unt.set (vr l) (s1.e.cls.length:Int)).getD _ 0=_
     rw [wG _ _ _ _ _ (by rw [k2.d.ul];exact l1),if_neg (hoff q y hy hlt)]
     exact k10 q y hy (by omega)⟩
    ·show l∈s1.e.tr.take s'
     rw [k3.tr];exact htake s' (by rw [←k3.st];exact h)
    ·obtain ⟨m,hm⟩:=k3.e
     refine ⟨⟨m++[[l]],?_⟩,k3.num,k3.arcs,k3.act,k3.acty,k3.rst,?_⟩
     ·show s1.e.push [l]=_
      unfold Eng.push
      rw [hm];simp
     ·show (s1.e.push [l]).cls.length+unitsOf s≤s.e.cls.length+(s1.unt.set (vr l) _).countP _
      rw [s1.e.push_len]
      have h9:=k3.cnt
      have:(s1.unt.set (vr l) (s1.e.cls.length:Int)).countP (fun x=>decide (0≤x))=unitsOf s1+1:=lN (by rw [k2.d.ul];exact l1) (by rw [k10 p l hp (Nat.le_refl _),hu];rfl) (by simp)
      rw [this];omega
  ·have hl2:l2=l:=by
    have:=dD (l:=s.e.tr) hs.g.t.nd hc5 hlm hc4
    exact this
   rw [hc1,if_pos (by omega)]
   exact ⟨s,c,by rw [Int.toNat_natCast],hs,UnitR.refl s,hc2,by rw [hc3,hl2],fun _ _ _ _=>rfl⟩
end
section
variable {f fc:Form} {B N h:Nat} {Lo:Int}
def ChOk (n:Nat) (ch:List (Nat × Int)):Prop:=∀k∈ch,k.1<n∧k.2≠0∧vr k.2<1024
theorem ChOk.mono {n m:Nat} {ch:List (Nat × Int)} (h:ChOk n ch) (hn:n≤m):ChOk m ch:=fun k hk=>⟨zZ (h k hk).1 hn,(h k hk).2⟩
theorem ChOk.snoc {n:Nat} {ch:List (Nat × Int)} {c:Nat} {l:Int} (h:ChOk n ch) (h1:c<n) (h2:l≠0) (h3:vr l<1024):ChOk n (ch++[(c,l)]):=fun k hk=>by
 rcases zK.1 hk with hk|hk
 ·exact h k hk
 ·rw [zH] at hk;subst hk;exact ⟨h1,h2,h3⟩
theorem nF (hq:SolQ f B N) {fuel:Nat} {n0:List Int}:∀(lits:List Int) (s:Sol) (ch:List (Nat × Int)) (cur:List Int),SolI f fc B N s h Lo→B<fuel→lits.Nodup →
  (∀x∈lits,∃p,s.e.tr[p]? = some (-x)∧∀s'∈s.e.st,p<s')→(∀x∈lits,x∈cur)→(∀z∈cur,litB B z=true ∧ -z∉cur)→Up cur→gC s.e.nmc n0 ch=some cur→ChOk s.e.cls.length ch→ch.length+lits.length≤2 * B→s.e.cls.length+B<LIM+unitsOf s →
  ∃s2 ch2 cur2,unitsF fuel s lits ch=some (s2,ch2)∧SolI f fc B N s2 h Lo∧UnitR s s2∧gC s2.e.nmc n0 ch2=some cur2∧Up cur2∧(∀z,z∈cur2↔z∈cur∧z∉lits)∧ChOk s2.e.cls.length ch2∧ch2.length≤2 * B:=by
 intro lits
 induction lits with
 | nil=>intro s ch cur hs _ _ _ _ _ hup hch hok hlen _;exact ⟨s,ch,cur,rfl,hs,UnitR.refl s,hch,hup,fun z=>by simp,hok,by simpa using hlen⟩
 | cons x lits ih =>
  intro s ch cur hs hfu hnd hpos hin hcur hup hch hok hlen hlim
  rw [yU] at hnd
  obtain ⟨p,hp,hst⟩:=hpos x (by simp)
  have hxm:=List.mem_of_getElem? hp
  have hnx:=hs.g.t.lits _ hxm
  have hxl:litB B x=true:=by rw [←bL];exact hnx
  have hbl:=hq.bl
  have hplt:=(zG.1 hp).1
  have hBt:=hs.g.t.len
  simp only [qJ] at hlen
  unfold unitsF
  rw [qW]
  simp only
  rw [hs.d.ul,if_pos ⟨hxl,by unfold LIM;omega⟩]
  obtain ⟨s1,c,u1,u2,u3,u4,u5, -⟩:=unitF_ok hq fuel s p (-x) hs hp hst (by omega) hlim
  rw [vr_neg] at u1
  rw [u1]
  have hf1:=gJ hbl (lX hnx)
  obtain ⟨cur1,v1,v2,v3⟩:=oG (cur:=cur) (other:=nm [-x]) (l := -x) (wD.1 hnx).1 (by have:=(wD.1 hnx).2;omega) (by rw [yJ];exact hin x (by simp)) ((hf1.2.2 _).2 (by simp))
   (fun z=>z∈cur) (fun z hz hz2=>(hcur z hz).2 hz2) (fun z hz _=>⟨hz,cO hbl (hcur z hz).1⟩) (fun z hz hne=>by
    have:=(hf1.2.2 z).1 hz
    simp at this;exact absurd this hne)
  have hcur1:∀z,z∈cur1↔z∈cur∧z≠x:=fun z=>by
   rw [v3,yJ]
   constructor
   ·rintro (h|⟨a,b⟩)
    ·exact h
    ·have:=(hf1.2.2 z).1 a
     simp at this;exact absurd this b
   ·exact .inl
  have hch1:gC s1.e.nmc n0 (ch++[(c, -x)])=some cur1:=by
   refine aD (n:=cur) ?_ (by unfold Eng.nmc;rw [u5];exact v1)
   rw [dB (n:=s.e.cls.length) (fun k hk=>u3.nmc hk) (fun k hk=>(hok k hk).1)];exact hch
  obtain ⟨s2,ch2,cur2,w1,w2,w3,w4,w5,w6,w7,w8⟩:=ih s1 (ch++[(c, -x)]) cur1 u2 hfu hnd.2 (fun y hy=>by rw [u3.tr,u3.st];exact hpos y (by simp [hy])) (fun y hy=>(hcur1 y).2 ⟨hin y (by simp [hy]),fun e=>hnd.1 (e ▸ hy)⟩)
   (fun z hz=>by
    have hz1:=(hcur1 z).1 hz
    exact ⟨(hcur z hz1.1).1,fun h=>(hcur z hz1.1).2 ((hcur1 _).1 h).1⟩) v2 hch1 ((hok.mono u3.len).snoc u4 (wD.1 hnx).1 (by have:=(wD.1 hnx).2;omega)) (by simp;omega) (by have:=u3.cnt;omega)
  refine ⟨s2,ch2,cur2,w1,w2,u3.trans w3,w4,w5,fun z => ?_,w7,w8⟩
  rw [w6,hcur1]
  simp only [zV,jG]
  exact ⟨fun ⟨⟨a,b⟩,c⟩=>⟨a,b,c⟩,fun ⟨a,b,c⟩=>⟨⟨a,b⟩,c⟩⟩
def cnt (tr:List Int) (seen:List Bool) (sL k:Nat):Nat:=((tr.take k).drop sL).countP fun l=>seen.getD (vr l) false
structure LrnI (B:Nat) (e:Eng) (sL k:Nat) (p:Lrn):Prop where
 sl:p.seen.length=B
 al:p.acty.length=B
 op:p.opn=cnt e.tr p.seen sL k
 cn:(p.clause.map vr).Nodup
 fn:(p.fixed.map vr).Nodup
 cm:∀z,z∈p.clause ↔ -z∈e.tr.take sL∧p.seen.getD (vr z) false=true∧∃s∈e.st, -z∉e.tr.take s
 fm:∀z,z∈p.fixed ↔ -z∈e.tr∧p.seen.getD (vr z) false=true∧∀s∈e.st, -z∈e.tr.take s
theorem oW {l:List Int} (hnd:(l.map vr).Nodup) {seen:List Bool} {v:Nat} (hv:v<seen.length) (h0:seen.getD v false=false) :
  l.countP (fun x=>(seen.set v true).getD (vr x) false)=l.countP (fun x=>seen.getD (vr x) false)+(if v∈l.map vr then 1 else 0):=by
 induction l with
 | nil=>simp
 | cons x r ih =>
  rw [qC,yU] at hnd
  rw [kU,kU,ih hnd.2,wG _ _ _ _ _ hv]
  by_cases e:vr x=v
  ·subst e
   rw [if_pos rfl,if_neg hnd.1,if_pos (by simp),h0]
   simp
  ·rw [if_neg e]
   have hiff:v∈(x::r).map vr↔v∈r.map vr:=by
    rw [qC,zV]
    exact ⟨fun h=>h.elim (fun h=>absurd h.symm e) id, .inr⟩
   by_cases hm:v∈r.map vr
   ·rw [if_pos hm,if_pos (hiff.2 hm)];omega
   ·rw [if_neg hm,if_neg (fun h=>hm (hiff.1 h))];omega
theorem bI {l:List Int} {p k:Nat} {x:Int} (h:l[p]? = some x) (hk:p<k):x∈l.take k:=List.mem_of_getElem? (i:=p) (by rw [qX,if_pos hk];exact h)
theorem gX {l:List Int} (hnd:l.Nodup) {p k:Nat} {x:Int} (h:l[p]? = some x):x∈l.take k↔p<k:=by
 constructor
 ·intro hm
  obtain ⟨q,hq⟩:=qV hm
  rw [qX] at hq
  split at hq
  ·rename_i hlt
   obtain ⟨a1,a2⟩:=zG.1 h
   obtain ⟨b1,b2⟩:=zG.1 hq
   unfold List.Nodup at hnd
   rw [qM] at hnd
   rcases xJ p q with hpq|hpq|hpq
   ·exact absurd (by rw [a2,b2]) (hnd p q a1 b1 hpq)
   ·omega
   ·exact absurd (by rw [a2,b2]) (hnd q p b1 a1 hpq)
  ·cases hq
 ·exact fun hk=>bI h hk
theorem LrnI.lit {e:Eng} {sL k:Nat} {p:Lrn} (hE:TrI B e) (hL:LvI e) (hsL:sL∈e.st∧∀s∈e.st,s≤sL) (hp:LrnI B e sL k p) {x:Int} (hx : -x∈e.tr.take k) :
  LrnI B e sL k (collectLit e.lvl e.st.length p x)∧∀v,(collectLit e.lvl e.st.length p x).seen.getD v false=true↔p.seen.getD v false=true∨v=vr x:=by
 have hxt:=zN hx
 have hnl:=hE.lits _ hxt
 have hv:vr x<B:=by rw [←vr_neg];exact (wD.1 hnl).2
 have hsl:=hp.sl
 have hnd:=aE hE.nd
 by_cases hseen:p.seen.getD (vr x) false=true
 ·have:collectLit e.lvl e.st.length p x=p:=by unfold collectLit;rw [if_pos hseen]
  rw [this]
  exact ⟨hp,fun v=>⟨.inl,fun h=>h.elim id fun e=>by rw [e];exact hseen⟩⟩
 ·have hs0:p.seen.getD (vr x) false=false:=by simpa using hseen
  obtain ⟨q,hq⟩:=qV hxt
  have hqk:q<k:=(gX hnd hq).1 hx
  have hlv:=hL.lv q (-x) hq
  rw [vr_neg] at hlv
  have hget:∀v,(p.seen.set (vr x) true).getD v false=if v=vr x then true else p.seen.getD v false:=fun v=>wG _ _ _ _ _ (by omega)
  have hsv:∀v,(p.seen.set (vr x) true).getD v false=true↔p.seen.getD v false=true∨v=vr x:=fun v=>by
   rw [hget]
   by_cases e1:v=vr x
   ·rw [if_pos e1];exact ⟨fun _ => .inr e1,fun _=>rfl⟩
   ·rw [if_neg e1];exact ⟨.inl,fun h=>h.elim id fun h=>absurd h e1⟩
  have hvz:∀z, -z∈e.tr→(vr z=vr x↔z=x):=fun z hz=>by
   constructor
   ·intro e1
    have:=dD hE.nd hz hxt (by rw [vr_neg,vr_neg];exact e1)
    omega
   ·intro e1;rw [e1]
  have hcnt:cnt e.tr (p.seen.set (vr x) true) sL k=cnt e.tr p.seen sL k+(if sL≤q then 1 else 0):=by
   unfold cnt
   have hsub:(((e.tr.take k).drop sL).map vr).Nodup:=hE.nd.sublist (List.Sublist.map _ ((List.drop_sublist _ _).trans (kN _ _)))
   rw [oW hsub (by omega) hs0]
   congr 1
   by_cases hle:sL≤q
   ·rw [if_pos hle,if_pos]
    refine List.mem_map.2 ⟨-x,?_,vr_neg x⟩
    refine List.mem_of_getElem? (i:=q-sL) ?_
    rw [yW,show sL+(q-sL)=q by omega,qX,if_pos hqk]
    exact hq
   ·rw [if_neg hle,if_neg]
    intro hm
    obtain ⟨y,hy,e1⟩:=List.mem_map.1 hm
    have hyt:y∈e.tr:=zN (List.mem_of_mem_drop hy)
    have e2:=dD hE.nd hyt hxt (by rw [vr_neg];exact e1)
    subst e2
    obtain ⟨r,hr⟩:=qV hy
    rw [yW,qX] at hr
    split at hr
    ·obtain ⟨a1,a2⟩:=zG.1 hq
     obtain ⟨b1,b2⟩:=zG.1 hr
     unfold List.Nodup at hnd
     rw [qM] at hnd
     exact hnd q (sL+r) a1 b1 (by omega) (by rw [a2,b2])
    ·cases hr
  have hstep:collectLit e.lvl e.st.length p x=if e.lvl.getD (vr x) 0=e.st.length then { p with seen:=p.seen.set (vr x) true,acty:=p.acty.set (vr x) (w64 (p.acty.getD (vr x) 0+1)),opn:=p.opn+1 }
    else if e.lvl.getD (vr x) 0=0 then { p with seen:=p.seen.set (vr x) true,acty:=p.acty.set (vr x) (w64 (p.acty.getD (vr x) 0+1)),fixed:=p.fixed++[x] }
    else { p with seen:=p.seen.set (vr x) true,acty:=p.acty.set (vr x) (w64 (p.acty.getD (vr x) 0+1)),clause:=p.clause++[x] }:=by
   unfold collectLit;rw [if_neg hseen]
  have hpast:∀s, -x∈e.tr.take s↔q<s:=fun s=>gX hnd hq
  have hlast:levAt e.st q=e.st.length↔sL≤q:=by
   constructor
   ·intro h1
    unfold levAt at h1
    have:=kB.1 (kZ (vX (l:=e.st)) h1) sL hsL.1
    simpa using this
   ·exact fun h1=>fH fun s hs=>qA (hsL.2 s hs) h1
  have hzero:levAt e.st q=0↔∀s∈e.st,q<s:=by
   unfold levAt
   rw [vH,vM]
   simp
  have hnotc:x∉p.clause:=fun hm=>hseen ((hp.cm x).1 hm).2.1
  have hnotf:x∉p.fixed:=fun hm=>hseen ((hp.fm x).1 hm).2.1
  have snd:∀l:List Int,(l.map vr).Nodup→(∀z∈l, -z∈e.tr)→x∉l→((l++[x]).map vr).Nodup:=fun l h1 h2 h3=>by
   rw [List.map_append,qG]
   refine ⟨h1,by simp,fun a ha b hb e1 => ?_⟩
   simp only [qC,xU,zH] at hb
   obtain ⟨z,hz,e2⟩:=List.mem_map.1 ha
   exact h3 (((hvz z (h2 z hz)).1 (by rw [e2,e1,hb])) ▸ hz)
  have hcmn:∀z,(-z∈e.tr.take sL∧(p.seen.getD (vr z) false=true∨vr z=vr x)∧∃s∈e.st, -z∉e.tr.take s)↔z∈p.clause∨(z=x∧q<sL∧∃s∈e.st,¬q<s):=fun z=>by
   rw [hp.cm z]
   constructor
   ·rintro ⟨a,b|b,c⟩
    ·exact .inl ⟨a,b,c⟩
    ·have:=(hvz z (zN a)).1 b
     subst this
     simp only [hpast] at a c
     exact .inr ⟨rfl,a,c⟩
   ·rintro (⟨a,b,c⟩|⟨rfl,b,c⟩)
    ·exact ⟨a, .inl b,c⟩
    ·simp only [hpast];exact ⟨b, .inr trivial,c⟩
  have hfmn:∀z,(-z∈e.tr∧(p.seen.getD (vr z) false=true∨vr z=vr x)∧∀s∈e.st, -z∈e.tr.take s)↔z∈p.fixed∨(z=x∧∀s∈e.st,q<s):=fun z=>by
   rw [hp.fm z]
   constructor
   ·rintro ⟨a,b|b,c⟩
    ·exact .inl ⟨a,b,c⟩
    ·have:=(hvz z a).1 b
     subst this
     simp only [hpast] at c
     exact .inr ⟨rfl,c⟩
   ·rintro (⟨a,b,c⟩|⟨rfl,c⟩)
    ·exact ⟨a, .inl b,c⟩
    ·simp only [hpast];exact ⟨hxt, .inr trivial,c⟩
  rw [hstep,hlv]
  by_cases h1:levAt e.st q=e.st.length
  ·rw [if_pos (by rw [h1])]
   have hle:=hlast.1 h1
   refine ⟨⟨by simp [hp.sl],by simp [hp.al],?_,hp.cn,hp.fn,fun z => ?_,fun z => ?_⟩,hsv⟩
   ·show p.opn+1=(cnt e.tr (p.seen.set (vr x) true) sL k:Int)
    rw [hcnt,if_pos hle,hp.op];omega
   ·simp only [hsv];rw [hcmn]
    exact ⟨.inl,fun h=>h.elim id fun h=>by omega⟩
   ·simp only [hsv];rw [hfmn]
    exact ⟨.inl,fun h=>h.elim id fun h=>by have:=h.2 sL hsL.1;omega⟩
  ·rw [if_neg (by omega)]
   have hlt:q<sL:=by
    apply qF
    intro hc;exact h1 (hlast.2 (by omega))
   have hno:¬sL≤q:=by omega
   by_cases h2:levAt e.st q=0
   ·rw [if_pos (by omega)]
    have hall:=hzero.1 h2
    refine ⟨⟨by simp [hp.sl],by simp [hp.al],?_,hp.cn,snd _ hp.fn (fun z hz=>((hp.fm z).1 hz).1) hnotf,fun z => ?_,fun z => ?_⟩,hsv⟩
    ·show p.opn=(cnt e.tr (p.seen.set (vr x) true) sL k:Int)
     rw [hcnt,if_neg hno,hp.op];omega
    ·simp only [hsv];rw [hcmn]
     exact ⟨.inl,fun h=>h.elim id fun h=>by obtain ⟨_,_,s,hs1,hs2⟩:=h;exact absurd (hall s hs1) hs2⟩
    ·simp only [hsv];rw [hfmn,zK,zH]
     exact ⟨fun h=>h.elim .inl fun h => .inr ⟨h,hall⟩,fun h=>h.elim .inl fun h => .inr h.1⟩
   ·rw [if_neg (by omega)]
    have hnall:∃s∈e.st,¬q<s:=by
     apply qF
     intro hc
     exact h2 (hzero.2 fun s hs=>qF fun h=>hc ⟨s,hs,h⟩)
    refine ⟨⟨by simp [hp.sl],by simp [hp.al],?_,snd _ hp.cn (fun z hz=>zN ((hp.cm z).1 hz).1) hnotc,hp.fn,fun z => ?_,fun z => ?_⟩,hsv⟩
    ·show p.opn=(cnt e.tr (p.seen.set (vr x) true) sL k:Int)
     rw [hcnt,if_neg hno,hp.op];omega
    ·simp only [hsv];rw [hcmn,zK,zH]
     exact ⟨fun h=>h.elim .inl fun h => .inr ⟨h,hlt,hnall⟩,fun h=>h.elim .inl fun h => .inr h.1⟩
    ·simp only [hsv];rw [hfmn]
     exact ⟨.inl,fun h=>h.elim id fun h=>by obtain ⟨s,hs1,hs2⟩:=hnall;exact absurd (h.2 s hs1) hs2⟩
theorem LrnI.all {e:Eng} {sL k:Nat} (hE:TrI B e) (hL:LvI e) (hsL:sL∈e.st∧∀s∈e.st,s≤sL):∀(cl:List Int) (p:Lrn),LrnI B e sL k p→(∀x∈cl, -x∈e.tr.take k∨p.seen.getD (vr x) false=true) →
  LrnI B e sL k (wE e.lvl e.st.length p cl)∧∀v,(wE e.lvl e.st.length p cl).seen.getD v false=true↔p.seen.getD v false=true∨v∈cl.map vr:=by
 intro cl
 induction cl with
 | nil=>intro p hp _;exact ⟨hp,fun v=>by simp [wE]⟩
 | cons x cl ih =>
  intro p hp hx
  have h1:LrnI B e sL k (collectLit e.lvl e.st.length p x)∧∀v,(collectLit e.lvl e.st.length p x).seen.getD v false=true↔p.seen.getD v false=true∨v=vr x:=by
   rcases hx x (by simp) with h|h
   ·exact hp.lit hE hL hsL h
   ·have:collectLit e.lvl e.st.length p x=p:=by unfold collectLit;rw [if_pos h]
    rw [this]
    exact ⟨hp,fun v=>⟨.inl,fun h2=>h2.elim id fun e1=>by rw [e1];exact h⟩⟩
  obtain ⟨a1,a2⟩:=h1
  obtain ⟨b1,b2⟩:=ih _ a1 (fun y hy=>by
   rcases hx y (by simp [hy]) with h|h
   ·exact .inl h
   ·exact .inr ((a2 _).2 (.inl h)))
  refine ⟨b1,fun v => ?_⟩
  show (wE e.lvl e.st.length (collectLit e.lvl e.st.length p x) cl).seen.getD v false=true↔_
  rw [b2,a2,qC,zV]
  exact or_assoc
end
section
variable {f fc:Form} {B N h:Nat} {Lo:Int}
theorem nJ (lvl:List Int) (cur:Nat):∀(cl:List Int) (p:Lrn),p.opn≤(wE lvl cur p cl).opn:=by
 intro cl
 induction cl with
 | nil=>intro p;exact yM _
 | cons x cl ih =>
  intro p
  have h1:p.opn≤(collectLit lvl cur p x).opn:=by
   unfold collectLit
   split
   ·exact yM _
   ·split
    ·show p.opn≤p.opn+1;omega
    ·split<;>exact yM _
  exact vL h1 (ih _)
theorem cnt_le (tr:List Int) (seen:List Bool) (sL k:Nat):cnt tr seen sL k≤tr.length:=by
 unfold cnt
 refine qA uY ?_
 simp;omega
theorem iW (tr:List Int) (seen:List Bool) {sL k:Nat} (h:k≤sL):cnt tr seen sL k=0:=by
 unfold cnt
 rw [qY (by simp;omega)]
 rfl
theorem pM {tr:List Int} (seen:List Bool) {sL k:Nat} (h:sL≤k) {t:Int} (ht:tr[k]? = some t):cnt tr seen sL (k+1)=cnt tr seen sL k+(if seen.getD (vr t) false=true then 1 else 0):=by
 have hlt:=(zG.1 ht).1
 unfold cnt
 rw [xI,ht,Option.toList,vU (by rw [qO];omega),List.countP_append]
 simp [List.countP_cons]
theorem scanF_ok (hq:SolQ f B N) {e:Eng} (hg:EngI fc B e h) {sL:Nat} (hsL:sL∈e.st∧∀s∈e.st,s≤sL) {n0:List Int}:∀(k:Nat) (p:Lrn) (ch:List (Nat × Int)) (cur:List Int),k≤e.tr.length→LrnI B e sL k p→1≤p.opn →
  gC e.nmc n0 ch=some cur→Up cur→(∀z,z∈cur ↔ -z∈e.tr.take k∧p.seen.getD (vr z) false=true)→ChOk e.cls.length ch→ch.length+k≤e.tr.length →
  ∃k2 p2 ch2 cur2,dK e k p ch=some (k2,p2,ch2)∧sL≤k2∧k2<k∧LrnI B e sL (k2+1) p2∧p2.opn=1∧p2.seen.getD (vr (e.tr.getD k2 0)) false=true∧gC e.nmc n0 ch2=some cur2∧Up cur2 ∧
   (∀z,z∈cur2 ↔ -z∈e.tr.take (k2+1)∧p2.seen.getD (vr z) false=true)∧ChOk e.cls.length ch2∧ch2.length+k2+1≤e.tr.length:=by
 intro k
 induction k with
 | zero =>
  intro p ch cur _ hp ho
  have:=hp.op
  rw [iW _ _ (zQ _)] at this
  omega
 | succ k ih =>
  intro p ch cur hk hp ho hch hup hcur hok hlen
  have hBt:=hg.t.len
  have hbl:=hq.bl
  have hlt:k<e.tr.length:=hk
  obtain ⟨t,ht⟩:∃t,e.tr[k]? = some t:=⟨_,List.getElem?_eq_getElem hlt⟩
  have htg:e.tr.getD k 0=t:=by rw [List.getD_eq_getElem?_getD,ht];rfl
  have htm:=List.mem_of_getElem? ht
  have htl:=hg.t.lits t htm
  have hop:=hp.op
  have hsk:sL≤k:=by
   apply qF
   intro hc
   rw [iW _ _ (by omega)] at hop
   omega
  have hcs:=pM p.seen hsk ht
  have hnd:=aE hg.t.nd
  have htk:e.tr.take (k+1)=e.tr.take k++[t]:=by rw [xI,ht];rfl
  have hnotk:t∉e.tr.take k:=fun hm=>by have:=(gX hnd ht).1 hm;omega
  rw [dK]
  simp only [htg]
  rw [hg.t.vl,if_pos htl]
  by_cases hs:p.seen.getD (vr t) false=true
  ·rw [if_pos hs]
   rw [if_pos hs] at hcs
   by_cases h1:p.opn=1
   ·rw [if_pos h1]
    exact ⟨k,p,ch,cur,rfl,hsk,by omega,hp,h1,by rw [htg];exact hs,hch,hup,hcur,hok,by omega⟩
   ·rw [if_neg h1]
    have hck:1≤cnt e.tr p.seen sL k:=by omega
    have hlt2:sL<k:=by
     apply qF
     intro hc
     rw [iW _ _ (by omega)] at hck
     omega
    obtain ⟨r,r1,r2,r3,r4⟩:=hg.r k t ht (fun hm=>by have:=hsL.2 k hm;omega)
    have hfr:=hg.c r r2
    have hcle:=cnt_le e.tr p.seen sL (k+1)
    rw [r1,Int.toNat_natCast]
    rw [if_pos ⟨by omega,by omega,qH.2 hfr.1,by unfold LIM;omega,by omega,by unfold LIM;omega,by have:=fine_len hfr;unfold LIM;omega⟩]
    have hp1:LrnI B e sL k { p with opn:=p.opn-1 }:=⟨hp.sl,hp.al,by show p.opn-1=(cnt e.tr p.seen sL k:Int);omega,hp.cn,hp.fn,hp.cm,hp.fm⟩
    obtain ⟨a1,a2⟩:=LrnI.all hg.t hg.l hsL (e.cl r) _ hp1 (fun x hx=>by
     by_cases e1:x=t
     ·subst e1;exact .inr hs
     ·exact .inl (r4 x hx e1))
    have hm1:=nJ e.lvl e.st.length (e.cl r) { p with opn:=p.opn-1 }
    have hf1:=gJ hbl hfr
    have htneg : -t∈cur:=(hcur _).2 ⟨by rw [yJ,htk];simp,by rw [vr_neg];exact hs⟩
    obtain ⟨cur2,v1,v2,v3⟩:=oG (cur:=cur) (other:=e.nmc r) (l:=t) (wD.1 htl).1 (by have:=(wD.1 htl).2;omega) htneg ((hf1.2.2 _).2 r3)
     (fun z => -z∈e.tr) (fun z h1 h2=>by rw [yJ] at h2;exact hg.t.not_both h2 h1)
     (fun z hz _=>by
      have:=zN ((hcur z).1 hz).1
      exact ⟨this,cO hbl (by rw [←bL];exact hg.t.lits _ this)⟩)
     (fun z hz hne=>by
      have hz2:=(hf1.2.2 z).1 hz
      exact ⟨zN (r4 z hz2 hne),cO hbl (hfr.1 z hz2)⟩)
    have hcur2:∀z,z∈cur2 ↔ -z∈e.tr.take k∧(wE e.lvl e.st.length { p with opn:=p.opn-1 } (e.cl r)).seen.getD (vr z) false=true:=by
     intro z
     rw [v3,a2]
     constructor
     ·rintro (⟨b1,b2⟩|⟨b1,b2⟩)
      ·obtain ⟨c1,c2⟩:=(hcur z).1 b1
       refine ⟨?_, .inl c2⟩
       rw [htk] at c1
       rcases zK.1 c1 with c1|c1
       ·exact c1
       ·rw [zH] at c1;exact absurd (by omega) b2
      ·have hz2:=(hf1.2.2 z).1 b1
       exact ⟨r4 z hz2 b2, .inr (List.mem_map.2 ⟨z,hz2,rfl⟩)⟩
     ·rintro ⟨b1,b2|b2⟩
      ·left
       refine ⟨(hcur z).2 ⟨by rw [htk];exact qP _ b1,b2⟩,fun e1 => ?_⟩
       subst e1;rw [yJ] at b1;exact hnotk b1
      ·right
       obtain ⟨x,hx,e1⟩:=List.mem_map.1 b2
       by_cases e2:x=t
       ·subst e2
        have:=dD hg.t.nd (zN b1) htm (by rw [vr_neg];exact e1.symm)
        rw [this] at b1
        exact absurd b1 hnotk
       ·have h3:=r4 x hx e2
        have:=dD hg.t.nd (zN b1) (zN h3) (by rw [vr_neg,vr_neg];exact e1.symm)
        have hzx:z=x:=by omega
        subst hzx
        exact ⟨(hf1.2.2 z).2 hx,e2⟩
    obtain ⟨k2,p2,ch2,cur3,w1,w2,w3,w4⟩:=ih _ (ch++[(r,t)]) cur2 (by omega) a1 (by simp only at hm1;omega) (aD hch v1) v2 hcur2 (hok.snoc r2 (wD.1 htl).1 (by have:=(wD.1 htl).2;omega)) (by simp;omega)
    exact ⟨k2,p2,ch2,cur3,w1,w2,by omega,w4⟩
  ·rw [if_neg hs]
   rw [if_neg hs] at hcs
   obtain ⟨k2,p2,ch2,cur3,w1,w2,w3,w4⟩:=ih p ch cur (by omega) ⟨hp.sl,hp.al,by omega,hp.cn,hp.fn,hp.cm,hp.fm⟩ ho hch hup (fun z=>by
    rw [hcur]
    constructor
    ·rintro ⟨b1,b2⟩
     refine ⟨?_,b2⟩
     rw [htk] at b1
     rcases zK.1 b1 with b1|b1
     ·exact b1
     ·rw [zH] at b1
      exfalso
      apply hs
      rw [←b1,vr_neg];exact b2
    ·rintro ⟨b1,b2⟩
     exact ⟨by rw [htk];exact qP _ b1,b2⟩) hok (by omega)
   exact ⟨k2,p2,ch2,cur3,w1,w2,by omega,w4⟩
end
end Go.Proofs.Yticieifacalocaa
