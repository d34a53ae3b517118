/- RpPlain -/
import Derived.Test.YticieifacalocaaTSB23
namespace Go.Proofs.Yticieifacalocaa
def rI (B:Nat):List Int→List Int→Option (List Int)
 | [],val=>some val
 | x::r,val=>if x=0∨(B:Int)<x∨x < -(B:Int)∨val.getD x.natAbs 0 = -x then none else rI B r (val.set x.natAbs x)
def rpLit (val:List Int) (p:Int × Nat × Bool) (x:Int):Int × Nat × Bool :=
 if val.getD x.natAbs 0=x then (p.1,p.2.1,true) else if val.getD x.natAbs 0=0∧x≠p.1 then (x,p.2.1+1,p.2.2) else p
def bC (val:List Int) (c:List Int):Int × Nat × Bool:=c.foldl (rpLit val) (0,0,false)
def aB:List (List Int)→List Int→Bool→Option (List Int × Bool)
 | [],val,ag=>some (val,ag)
 | c::r,val,ag =>
  if (bC val c).2.2=true∨1<(bC val c).2.1 then aB r val ag
  else if (bC val c).2.1=0 then none
  else aB r (val.set (bC val c).1.natAbs (bC val c).1) true
def cR:Nat→List (List Int)→List Int→Option (Option (List Int))
 | 0,_,_=>none
 | n+1,gs,val =>
  match aB gs val false with
  | none=>some none
  | some (v2,ag)=>if ag=true then cR n gs v2 else some (some v2)
def rpOut (B:Nat) (gs:List (List Int)) (ls:List Int):Option (Option (List Int)) :=
 match rI B ls (List.replicate (B+1) 0) with
 | none=>some none
 | some v=>(cR (B+2) gs v).map fun o=>o.map fun v=>v.filter (· ≠ 0)
structure RpV (B:Nat) (val:List Int):Prop where
 len:val.length=B+1
 z:val.getD 0 0=0
 v:∀i,val.getD i 0=0∨(val.getD i 0).natAbs=i
def rpM (val:List Int) (x:Int):Prop:=x≠0∧val.getD x.natAbs 0=x
theorem eD {l:List Int} {i j:Nat} {x:Int} (h:i<l.length):(l.set i x).getD j 0=if i=j then x else l.getD j 0:=by
 rw [List.getD_eq_getElem?_getD,yW]
 split
 ·rename_i e;subst e;rfl
 ·rw [←List.getD_eq_getElem?_getD]
section
variable {B:Nat} {val:List Int} {gs:List (List Int)} {ls:List Int}
theorem RpV.new (B:Nat):RpV B (List.replicate (B+1) 0):=by
 have:∀i,(List.replicate (B+1) (0:Int)).getD i 0=0:=fun i=>by
  rw [List.getD_eq_getElem?_getD]
  by_cases h:i<B+1
  ·rw [List.getElem?_eq_getElem (by simpa using h)];simp
  ·rw [zZ (by simp;omega)];rfl
 exact ⟨by simp,this 0,fun i => .inl (this i)⟩
theorem RpV.set (h:RpV B val) {x:Int} (h0:x≠0) (h1:x.natAbs≤B):RpV B (val.set x.natAbs x):=by
 have hl:x.natAbs<val.length:=by rw [h.len];omega
 refine ⟨by simp [h.len],?_,fun i => ?_⟩
 ·rw [eD hl,if_neg (by omega)];exact h.z
 ·rw [eD hl]
  split
  ·rename_i e;exact .inr e
  ·exact h.v i
theorem pK (h:RpV B val) {x:Int} (h0:x≠0) (h1:x.natAbs≤B) (y:Int):rpM (val.set x.natAbs x) y↔y=x∨(rpM val y∧y ≠ -x):=by
 unfold rpM
 have hl:x.natAbs<val.length:=by rw [h.len];omega
 rw [eD hl]
 split
 ·rename_i e
  constructor
  ·intro h2;exact .inl h2.2.symm
  ·rintro (h2|⟨⟨h2, -⟩,h3⟩)
   ·subst h2;exact ⟨h0,rfl⟩
   ·exact ⟨h2,by omega⟩
 ·rename_i e
  constructor
  ·rintro ⟨h2,h3⟩;exact .inr ⟨⟨h2,h3⟩,by omega⟩
  ·rintro (h2|⟨h2,h3⟩)
   ·subst h2;exact absurd rfl e
   ·exact h2
theorem oG (val:List Int):∀(c:List Int) (p:Int × Nat × Bool),(∀x∈c,x≠0) →
  ((c.foldl (rpLit val) p).2.2=true↔p.2.2=true∨∃x∈c,val.getD x.natAbs 0=x) ∧
  ((c.foldl (rpLit val) p).2.2=false→p.2.1≤(c.foldl (rpLit val) p).2.1 ∧
   ((c.foldl (rpLit val) p).2.1=p.2.1→(c.foldl (rpLit val) p).1=p.1∧∀x∈c,val.getD x.natAbs 0=0→x=p.1) ∧
   ((c.foldl (rpLit val) p).2.1=p.2.1+1→((c.foldl (rpLit val) p).1∈c∧val.getD (c.foldl (rpLit val) p).1.natAbs 0=0∧(c.foldl (rpLit val) p).1≠p.1)∧∀x∈c,val.getD x.natAbs 0=0→x=p.1∨x=(c.foldl (rpLit val) p).1) ∧
   (p.2.1+2≤(c.foldl (rpLit val) p).2.1→∃x∈c,∃y∈c,x≠y∧val.getD x.natAbs 0=0∧val.getD y.natAbs 0=0)):=by
 intro c
 induction c with
 | nil =>
  intro p h0
  refine ⟨by simp,fun h=>⟨Nat.le_refl _,fun _=>⟨rfl,by simp⟩,fun h1 => ?_,fun h1 => ?_⟩⟩
  ·simp at h1
  ·simp only [xQ] at h1;omega
 | cons x r ih =>
  intro p h0
  rw [xE]
  have h0r:∀z∈r,z≠0:=fun z hz=>h0 z (by simp [hz])
  by_cases h1:val.getD x.natAbs 0=x
  ·have e:rpLit val p x=(p.1,p.2.1,true):=by unfold rpLit;rw [if_pos h1]
   rw [e]
   obtain ⟨a1,a2⟩:=ih (p.1,p.2.1,true) h0r
   have ht:(r.foldl (rpLit val) (p.1,p.2.1,true)).2.2=true:=a1.2 (.inl rfl)
   refine ⟨⟨fun _ => .inr ⟨x,by simp,h1⟩,fun _=>ht⟩,fun h => ?_⟩
   rw [ht] at h;cases h
  ·by_cases h2:val.getD x.natAbs 0=0∧x≠p.1
   ·have e:rpLit val p x=(x,p.2.1+1,p.2.2):=by unfold rpLit;rw [if_neg h1,if_pos h2]
    rw [e]
    obtain ⟨a1,a2⟩:=ih (x,p.2.1+1,p.2.2) h0r
    refine ⟨a1.trans ?_,fun h => ?_⟩
    ·constructor
     ·rintro (h3|⟨y,hy,h3⟩)
      ·exact .inl h3
      ·exact .inr ⟨y,by simp [hy],h3⟩
     ·rintro (h3|⟨y,hy,h3⟩)
      ·exact .inl h3
      ·rcases zW.1 hy with rfl|hy
       ·exact absurd h3 h1
       ·exact .inr ⟨y,hy,h3⟩
    ·obtain ⟨b1,b2,b3,b4⟩:=a2 h
     simp only at b1 b2 b3 b4
     refine ⟨by omega,fun h3=>by omega,fun h3 => ?_,fun h3 => ?_⟩
     ·obtain ⟨c1,c2⟩:=b2 h3
      rw [c1]
      refine ⟨⟨by simp,h2.1,h2.2⟩,fun y hy hy0 => ?_⟩
      rcases zW.1 hy with rfl|hy
      ·exact .inr rfl
      ·exact .inr (c2 y hy hy0)
     ·by_cases h4:(r.foldl (rpLit val) (x,p.2.1+1,p.2.2)).2.1=p.2.1+1+1
      ·obtain ⟨⟨c1,c2,c3⟩, -⟩:=b3 h4
       exact ⟨x,by simp,_,by simp [c1],fun e=>c3 e.symm,h2.1,c2⟩
      ·obtain ⟨y,hy,z,hz,g⟩:=b4 (by omega)
       exact ⟨y,by simp [hy],z,by simp [hz],g⟩
   ·have e:rpLit val p x=p:=by unfold rpLit;rw [if_neg h1,if_neg h2]
    rw [e]
    obtain ⟨a1,a2⟩:=ih p h0r
    have hx:val.getD x.natAbs 0=0→x=p.1:=fun h=>kQ.1 fun hn=>h2 ⟨h,hn⟩
    refine ⟨a1.trans ?_,fun h => ?_⟩
    ·constructor
     ·rintro (h3|⟨y,hy,h3⟩)
      ·exact .inl h3
      ·exact .inr ⟨y,by simp [hy],h3⟩
     ·rintro (h3|⟨y,hy,h3⟩)
      ·exact .inl h3
      ·rcases zW.1 hy with rfl|hy
       ·exact absurd h3 h1
       ·exact .inr ⟨y,hy,h3⟩
    ·obtain ⟨b1,b2,b3,b4⟩:=a2 h
     refine ⟨b1,fun h3 => ?_,fun h3 => ?_,fun h3 => ?_⟩
     ·obtain ⟨c1,c2⟩:=b2 h3
      refine ⟨c1,fun y hy hy0 => ?_⟩
      rcases zW.1 hy with rfl|hy
      ·exact hx hy0
      ·exact c2 y hy hy0
     ·obtain ⟨⟨c1,c2,c3⟩,c4⟩:=b3 h3
      refine ⟨⟨by simp [c1],c2,c3⟩,fun y hy hy0 => ?_⟩
      rcases zW.1 hy with rfl|hy
      ·exact .inl (hx hy0)
      ·exact c4 y hy hy0
     ·obtain ⟨y,hy,z,hz,g⟩:=b4 h3
      exact ⟨y,by simp [hy],z,by simp [hz],g⟩
theorem rpM_neg (h:RpV B val) {x:Int} (hx:x≠0) (h1:val.getD x.natAbs 0≠x) (h2:val.getD x.natAbs 0≠0):rpM val (-x):=by
 refine ⟨by omega,?_⟩
 rw [vS]
 rcases h.v x.natAbs with h3|h3
 ·exact absurd h3 h2
 ·omega
def rpZs (val:List Int):Nat:=val.count 0
theorem rpZs_set (h:RpV B val) {x:Int} (h0:x≠0) (h1:x.natAbs≤B) (h2:val.getD x.natAbs 0=0):rpZs (val.set x.natAbs x)+1=rpZs val:=by
 have hl:x.natAbs<val.length:=by rw [h.len];omega
 have h3:val[x.natAbs]=0:=by rw [List.getD_eq_getElem?_getD,List.getElem?_eq_getElem hl] at h2;exact h2
 unfold rpZs
 rw [List.count_set hl]
 have h4:0<val.count 0:=List.count_pos_iff.2 (h3 ▸ yH hl)
 simp [h3,h0]
 omega
theorem bT {x:Int} (h:litB B x=true):x≠0∧x.natAbs≤B:=by
 obtain ⟨h1,h2⟩:=wU.1 h
 unfold vr at h2
 omega
theorem rpPass_ok {ls:List Int} {Gs:List (List Int)}:∀(gs:List (List Int)) (val:List Int) (ag:Bool),(∀g∈gs,g∈Gs∧∀x∈g,litB B x=true)→RpV B val→(∀M,Closed B Gs ls M→∀x,rpM val x→M x)→(∀x∈ls,rpM val x) →
  (aB gs val ag=none∧∀M,¬Closed B Gs ls M)∨∃v2 ag2,aB gs val ag=some (v2,ag2)∧RpV B v2∧(∀M,Closed B Gs ls M→∀x,rpM v2 x→M x)∧(∀x∈ls,rpM v2 x)∧rpZs v2≤rpZs val ∧
   (ag2=false→ag=false∧v2=val∧∀g∈gs,(∃x∈g,rpM val x)∨∃x∈g,∃y∈g,x≠y∧¬rpM val (-x)∧¬rpM val (-y))∧(ag2=true→ag=false→rpZs v2<rpZs val):=by
 intro gs
 induction gs with
 | nil =>
  intro val ag _ hv hM hls
  exact .inr ⟨val,ag,rfl,hv,hM,hls,Nat.le_refl _,fun h=>⟨h,rfl,by simp⟩,fun h1 h2=>by rw [h2] at h1;cases h1⟩
 | cons c r ih =>
  intro val ag hg hv hM hls
  have hgr:∀g∈r,g∈Gs∧∀x∈g,litB B x=true:=fun g h=>hg g (by simp [h])
  obtain ⟨hcG,hcl⟩:=hg c (by simp)
  have hc0:∀x∈c,x≠0:=fun x hx=>(bT (hcl x hx)).1
  obtain ⟨r1,r2⟩:=oG val c (0,0,false) hc0
  have hopen:∀z:Int,val.getD z.natAbs 0=0→¬rpM val (-z):=by
   rintro z h ⟨h1,h2⟩
   rw [vS,h] at h2
   omega
  change ((bC val c).2.2=true↔_) at r1
  change ((bC val c).2.2=false→0≤(bC val c).2.1∧((bC val c).2.1=0→(bC val c).1=0∧_)∧((bC val c).2.1=0+1→((bC val c).1∈c∧val.getD (bC val c).1.natAbs 0=0∧(bC val c).1≠0)∧∀x∈c,val.getD x.natAbs 0=0→x=0∨x=(bC val c).1)∧(0+2≤(bC val c).2.1→_)) at r2
  rw [aB]
  by_cases h1:(bC val c).2.2=true∨1<(bC val c).2.1
  ·rw [if_pos h1]
   rcases ih val ag hgr hv hM hls with h|⟨v2,ag2,k1,k2,k3,k4,k5,k6,k7⟩
   ·exact .inl h
   ·refine .inr ⟨v2,ag2,k1,k2,k3,k4,k5,fun h => ?_,k7⟩
    obtain ⟨j1,j2,j3⟩:=k6 h
    refine ⟨j1,j2,fun g hg => ?_⟩
    rcases zW.1 hg with rfl|hg
    ·by_cases hh:(bC val g).2.2=true
     ·rcases r1.1 hh with h2|⟨x,hx,h2⟩
      ·cases h2
      ·exact .inl ⟨x,hx,hc0 x hx,h2⟩
     ·obtain ⟨-, -, -,q4⟩:=r2 (by simpa using hh)
      obtain ⟨x,hx,y,hy,hne,hx0,hy0⟩:=q4 (by rcases h1 with h1|h1;exact absurd h1 hh;omega)
      exact .inr ⟨x,hx,y,hy,hne,hopen x hx0,hopen y hy0⟩
    ·exact j3 g hg
  ·rw [if_neg h1]
   have hh:(bC val c).2.2=false:=by
    cases e:(bC val c).2.2
    ·rfl
    ·exact absurd (.inl e) h1
   have hno:∀x∈c,val.getD x.natAbs 0≠x:=fun x hx e=>by
    have:=r1.2 (.inr ⟨x,hx,e⟩);rw [hh] at this;cases this
   obtain ⟨-,q2,q3, -⟩:=r2 hh
   by_cases h2:(bC val c).2.1=0
   ·rw [if_pos h2]
    refine .inl ⟨rfl,fun M hc=>hc.conf hcG fun x hx => ?_⟩
    obtain ⟨-,q22⟩:=q2 h2
    exact hM M hc _ (rpM_neg hv (hc0 x hx) (hno x hx) fun e=>hc0 x hx (q22 x hx e))
   ·rw [if_neg h2]
    have h3:(bC val c).2.1=0+1:=by
     have:¬1<(bC val c).2.1:=fun h=>h1 (.inr h)
     omega
    obtain ⟨⟨u1,u2,u3⟩,u4⟩:=q3 h3
    generalize (bC val c).1=u at *
    obtain ⟨-,ul⟩:=bT (hcl u u1)
    have hv2:=hv.set u3 ul
    have hnu:¬rpM val (-u):=hopen u u2
    have hm2:∀M,Closed B Gs ls M→∀x,rpM (val.set u.natAbs u) x→M x:=by
     intro M hc x hx
     rcases (pK hv u3 ul x).1 hx with rfl|⟨hx, -⟩
     ·refine hc.unit hcG fun y hy hne=>hM M hc _ (rpM_neg hv (hc0 y hy) (hno y hy) fun e => ?_)
      rcases u4 y hy e with h|h
      ·exact hc0 y hy h
      ·exact hne h
     ·exact hM M hc x hx
    have hl2:∀x∈ls,rpM (val.set u.natAbs u) x:=fun x hx=>(pK hv u3 ul x).2 (.inr ⟨hls x hx,fun e=>hnu (e ▸ hls x hx)⟩)
    have hz:=rpZs_set hv u3 ul u2
    rcases ih _ true hgr hv2 hm2 hl2 with h|⟨v2,ag2,k1,k2,k3,k4,k5,k6,k7⟩
    ·exact .inl h
    ·exact .inr ⟨v2,ag2,k1,k2,k3,k4,by omega,fun h=>absurd (k6 h).1 (by simp),fun _ _=>by omega⟩
theorem rpLoop_ok {ls:List Int}:∀(n:Nat) (val:List Int),rpZs val<n→(∀g∈gs,∀x∈g,litB B x=true)→RpV B val→(∀M,Closed B gs ls M→∀x,rpM val x→M x)→(∀x∈ls,rpM val x) →
  (cR n gs val=some none∧∀M,¬Closed B gs ls M)∨∃v2,cR n gs val=some (some v2)∧RpV B v2∧(∀M,Closed B gs ls M→∀x,rpM v2 x→M x)∧Closed B gs ls (rpM v2):=by
 intro n
 induction n with
 | zero=>intro val h;omega
 | succ n ih =>
  intro val hn hg hv hM hls
  rw [cR]
  rcases rpPass_ok gs val false (fun g h=>⟨h,hg g h⟩) hv hM hls with ⟨h1,h2⟩|⟨v2,ag2,k1,k2,k3,k4,k5,k6,k7⟩
  ·rw [h1];exact .inl ⟨rfl,h2⟩
  ·rw [k1]
   simp only
   cases ag2 with
   | true =>
    rw [if_pos rfl]
    exact ih v2 (by have:=k7 rfl rfl;omega) hg k2 k3 k4
   | false =>
    rw [if_neg (by simp)]
    obtain ⟨-,rfl,j3⟩:=k6 rfl
    refine .inr ⟨v2,rfl,k2,k3,⟨fun l hl => ?_,fun l hl hl2 => ?_,k4,j3⟩⟩
    ·obtain ⟨h0,h1⟩:=hl
     rw [wU]
     refine ⟨h0,?_⟩
     unfold vr
     by_cases hb:l.natAbs<v2.length
     ·rw [k2.len] at hb;omega
     ·rw [List.getD_eq_getElem?_getD,zZ (by omega)] at h1
      exact absurd h1.symm h0
    ·obtain ⟨h0,h1⟩:=hl
     obtain ⟨h3,h4⟩:=hl2
     rw [vS,h1] at h4
     omega
theorem rpIn_ok:∀(l done:List Int) (val:List Int),RpV B val→(∀x,rpM val x↔x∈done) →
  (rI B l val=none∧∀gs M,¬Closed B gs (done++l) M)∨∃v2,rI B l val=some v2∧RpV B v2∧∀x,rpM v2 x↔x∈done++l:=by
 intro l
 induction l with
 | nil=>intro done val hv hm;exact .inr ⟨val,rfl,hv,fun x=>by simpa using hm x⟩
 | cons x r ih =>
  intro done val hv hm
  rw [rI]
  by_cases h:x=0∨(B:Int)<x∨x < -(B:Int)∨val.getD x.natAbs 0 = -x
  ·rw [if_pos h]
   refine .inl ⟨rfl,fun gs M hc => ?_⟩
   have hx:=hc.ls x (by simp)
   have h2:=bT (hc.rng x hx)
   rcases h with h|h|h|h
   ·exact h2.1 h
   ·omega
   ·omega
   ·have h3:rpM val (-x):=⟨by omega,by rw [vS];exact h⟩
    exact hc.two x hx (hc.ls _ (by simp [(hm _).1 h3]))
  ·rw [if_neg h]
   have h0:x≠0:=fun e=>h (.inl e)
   have hb:x.natAbs≤B:=by
    have h1:¬(B:Int)<x:=fun e=>h (.inr (.inl e))
    have h2:¬x < -(B:Int):=fun e=>h (.inr (.inr (.inl e)))
    omega
   have hnx:¬rpM val (-x):=by
    rintro ⟨-,h1⟩
    rw [vS] at h1
    exact h (.inr (.inr (.inr h1)))
   have:=ih (done++[x]) _ (hv.set h0 hb) fun y=>by
    rw [pK hv h0 hb,zI,zH,←hm]
    constructor
    ·rintro (h1|⟨h1, -⟩)
     ·exact .inr h1
     ·exact .inl h1
    ·rintro (h1|h1)
     ·by_cases e:y=x
      ·exact .inl e
      ·exact .inr ⟨h1,fun e=>hnx (e ▸ h1)⟩
     ·exact .inl h1
   simpa using this
def rpSgn (val:List Int):List Int:=val.tail.map Int.sign
theorem mG (_:RpV B val) (i:Nat):(rpSgn val).getD i 0=(val.getD (i+1) 0).sign:=by
 unfold rpSgn
 rw [List.getD_eq_getElem?_getD,List.getElem?_map,List.getElem?_tail,List.getD_eq_getElem?_getD]
 cases val[i+1]? <;> rfl
theorem pD:∀(l:List Int) (i:Nat),(∀j,l.getD j 0=0∨(l.getD j 0).natAbs=i+j+1)→l.filter (· ≠ 0)=gX i (l.map Int.sign):=by
 intro l
 induction l with
 | nil=>intro i _;rfl
 | cons y r ih =>
  intro i h
  have h0:y=0∨y.natAbs=i+1:=h 0
  have hr:=ih (i+1) fun j=>by
   have:=h (j+1)
   simp only [vH] at this
   omega
  rw [qF,gX,←hr,vD]
  rcases uX y 0 with h1|h1|h1
  ·rw [kW h1]
   simp only [decide_not,Int.reduceNeg,reduceCtorEq, ↓reduceIte]
   rw [if_pos (by simp;omega),show y = -((i:Int)+1) by omega]
   rfl
  ·subst h1;simp
  ·rw [vT h1]
   simp only [decide_not, ↓reduceIte]
   rw [if_pos (by simp;omega),show y=(i:Int)+1 by omega]
   rfl
theorem mL (h:RpV B val) (x:Int):TrueIn B (rpSgn val) x↔rpM val x:=by
 unfold TrueIn rpM
 rw [wU]
 constructor
 ·rintro ⟨⟨h1,h2⟩,h3⟩
  refine ⟨h1,?_⟩
  unfold tv at h3
  rw [mG h,show vr x+1=x.natAbs by unfold vr;omega] at h3
  have h4:=h.v x.natAbs
  generalize val.getD x.natAbs 0=y at *
  split at h3
  ·have:y.sign = -1:=by omega
   have:=Int.sign_eq_neg_one_iff_neg.1 this
   omega
  ·have:=Int.sign_eq_one_iff_pos.1 h3
   omega
 ·rintro ⟨h1,h2⟩
  have hlt:x.natAbs<val.length:=by
   refine kQ.1 fun hn=>h1 ?_
   rw [List.getD_eq_getElem?_getD,zZ (by omega)] at h2
   exact h2.symm
  rw [h.len] at hlt
  refine ⟨⟨h1,by unfold vr;omega⟩,?_⟩
  unfold tv
  rw [mG h,show vr x+1=x.natAbs by unfold vr;omega,h2]
  split
  ·rename_i h3;rw [kW h3];rfl
  ·rw [vT (by omega)]
theorem rU (hg:∀g∈gs,∀x∈g,litB B x=true) (ls:List Int):∃o,rpOut B gs ls=some o∧PrpOk B gs ls o:=by
 unfold rpOut
 have hnew:∀x:Int,rpM (List.replicate (B+1) 0) x↔x∈([]:List Int):=fun x=>by
  constructor
  ·rintro ⟨h1,h2⟩
   rcases (RpV.new B).v x.natAbs with h3|h3
   ·rw [h3] at h2;exact absurd h2.symm h1
   ·rw [List.getD_eq_getElem?_getD] at h2
    by_cases hb:x.natAbs<B+1
    ·rw [List.getElem?_eq_getElem (by simpa using hb)] at h2
     simp at h2;exact absurd h2.symm h1
    ·rw [zZ (by simp;omega)] at h2
     exact absurd h2.symm h1
  ·intro h;cases h
 rcases rpIn_ok ls [] _ (RpV.new B) hnew with ⟨h1,h2⟩|⟨v,h1,h2,h3⟩
 ·rw [h1]
  exact ⟨none,rfl,fun M hM=>h2 gs M (by simpa using hM)⟩
 ·rw [h1]
  simp only
  have hz:rpZs v<B+2:=by unfold rpZs;have:=List.count_le_length (a:=(0:Int)) (l:=v);rw [h2.len] at this;omega
  rcases rpLoop_ok (gs:=gs) (ls:=ls) (B+2) v hz hg h2 (fun M hM x hx=>hM.ls x (by simpa using (h3 x).1 hx)) (fun x hx=>(h3 x).2 (by simpa using hx)) with ⟨k1,k2⟩|⟨v2,k1,k2,k3,k4⟩
  ·rw [k1];exact ⟨none,rfl,k2⟩
  ·rw [k1]
   refine ⟨some (v2.filter (· ≠ 0)),rfl,rpSgn v2,?_,fun i => ?_,?_,?_,fun M hM l hl=>k3 M hM l ((mL k2 l).1 hl)⟩
   ·simp [rpSgn,k2.len]
   ·rw [mG k2]
    rcases uX (v2.getD (i+1) 0) 0 with h|h|h
    ·exact .inr (.inr (kW h))
    ·rw [h];exact .inl rfl
    ·exact .inr (.inl (vT h))
   ·have hc:v2=0::v2.tail:=by
     cases v2 with
     | nil=>have:=k2.len;simp at this
     | cons a r=>have:a=0:=k2.z;rw [this];rfl
    have hf:v2.filter (· ≠ 0)=v2.tail.filter (· ≠ 0):=by
     conv=>lhs;rw [hc]
     simp
    rw [hf]
    refine pD _ _ fun j => ?_
    have:=k2.v (j+1)
    rw [hc] at this
    simp only [vH] at this
    omega
   ·have he:TrueIn B (rpSgn v2)=rpM v2:=funext fun x=>propext (mL k2 x)
    rw [he];exact k4
end
end Go.Proofs.Yticieifacalocaa
