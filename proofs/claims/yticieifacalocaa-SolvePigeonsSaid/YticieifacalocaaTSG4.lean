/- Norm Step -/
import Derived.Lib.SlicesCompact
import Derived.Shelf.SlSortCmp.Insertion
import Derived.Test.YticieifacalocaaTSG2
namespace Go.Proofs.Yticieifacalocaa
def wV (x:Int):Bool:=x == 0 || x == -9223372036854775808
def gM (x:Int):List Int→Option (List Int)
 | []=>some [x]
 | y::r=>if y.natAbs<x.natAbs then (gM x r).map (y::·) else if y=x then some (y::r) else if y = -x then none else some (x::y::r)
def dU (acc:Option (List Int)) (x:Int):Option (List Int):=acc.bind fun l=>if wV x then none else gM x l
def wL (xs:List Int):Option (List Int):=xs.foldl dU (some [])
theorem norm_snoc (xs:List Int) (x:Int):wL (xs++[x])=dU (wL xs) x:=by simp [wL]
def Up (l:List Int):Prop:=l.Pairwise fun a b=>a.natAbs<b.natAbs
theorem pK {x:Int} {l l':List Int} (hx:x≠0) (hl:Up l) (h:gM x l=some l'):Up l'∧∀z,z∈l'↔z=x∨z∈l:=by
 induction l generalizing l' with
 | nil=>simp [gM] at h;subst h;simp [Up]
 | cons y r ih =>
  obtain ⟨h1,h2⟩:=yW.1 hl
  rw [gM] at h
  by_cases a:y.natAbs<x.natAbs
  ·rw [if_pos a] at h
   obtain ⟨l2,hl2,rfl⟩:=qO.1 h
   obtain ⟨i1,i2⟩:=ih h2 hl2
   refine ⟨yW.2 ⟨fun z hz => ?_,i1⟩,fun z => ?_⟩
   ·rcases (i2 z).1 hz with rfl|hz
    ·exact a
    ·exact h1 z hz
   ·simp only [zV,i2]
    constructor<;>rintro (h|h|h)<;>simp [h]
  ·rw [if_neg a] at h
   by_cases b:y=x
   ·rw [if_pos b] at h
    injection h with h
    subst h
    exact ⟨hl,fun z=>by subst b;simp⟩
   ·rw [if_neg b] at h
    by_cases c:y = -x
    ·rw [if_pos c] at h;cases h
    ·rw [if_neg c] at h
     injection h with h
     subst h
     refine ⟨yW.2 ⟨fun z hz => ?_,hl⟩,fun z=>by simp⟩
     rcases zV.1 hz with rfl|hz
     ·omega
     ·have:=h1 z hz;omega
theorem pZ {x:Int} {l:List Int} (h:gM x l=none) : -x∈l:=by
 induction l with
 | nil=>simp [gM] at h
 | cons y r ih =>
  rw [gM] at h
  by_cases a:y.natAbs<x.natAbs
  ·rw [if_pos a] at h
   exact jD _ (ih (by simpa using h))
  ·rw [if_neg a] at h
   by_cases b:y=x
   ·rw [if_pos b] at h;cases h
   ·rw [if_neg b] at h
    by_cases c:y = -x
    ·rw [c];simp
    ·rw [if_neg c] at h;cases h
def fK (xs:List Int):Option (List Int)→Prop
 | none=>(∃x∈xs,wV x=true)∨∃x∈xs, -x∈xs∧x≠0
 | some l=>Up l∧(∀z,z∈l↔z∈xs)∧∀x∈xs,wV x=false
theorem dT {x:Int} (h:wV x=false):x≠0:=by
 rintro rfl;simp [wV] at h
theorem rE (ys:List Int):∀(pre:List Int) (acc:Option (List Int)),fK pre acc→fK (pre++ys) (ys.foldl dU acc):=by
 induction ys with
 | nil=>intro pre acc h;simpa using h
 | cons y r ih =>
  intro pre acc h
  have key:fK (pre++[y]) (dU acc y):=by
   cases acc with
   | none =>
    show fK _ none
    rcases h with ⟨x,hx,hb⟩|⟨x,hx,hn⟩
    ·exact .inl ⟨x,by simp [hx],hb⟩
    ·exact .inr ⟨x,by simp [hx],by simp [hn.1],hn.2⟩
   | some l =>
    obtain ⟨h1,h2,h3⟩:=h
    show fK _ (if wV y=true then none else gM y l)
    by_cases hb:wV y=true
    ·rw [if_pos hb];exact .inl ⟨y,by simp,hb⟩
    ·rw [if_neg hb]
     have hb':wV y=false:=by simpa using hb
     have hy:=dT hb'
     cases hi:gM y l with
     | none=>exact .inr ⟨y,by simp,by simp [(h2 _).1 (pZ hi)],hy⟩
     | some l' =>
      obtain ⟨u1,u2⟩:=pK hy h1 hi
      refine ⟨u1,fun z => ?_,fun x hx => ?_⟩
      ·rw [u2,h2];simp [or_comm]
      ·rcases zL.1 hx with hx|hx
       ·exact h3 x hx
       ·simp at hx;subst hx;exact hb'
  have:=ih (pre++[y]) (dU acc y) key
  simpa using this
theorem gF (xs:List Int):fK xs (wL xs):=by
 have:=rE xs [] (some []) ⟨List.Pairwise.nil,by simp,by simp⟩
 simpa [wL] using this
theorem nW {l:List Int} (h:Up l) {x:Int} (hx:x∈l) (hn : -x∈l):x=0:=by
 obtain ⟨i,hi,e1⟩:=qZ hx
 obtain ⟨j,hj,e2⟩:=qZ hn
 rcases xJ i j with hij|hij|hij
 ·have:=qK.1 h i j hi hj hij
  rw [e1,e2] at this;omega
 ·subst hij;rw [e1] at e2;omega
 ·have:=qK.1 h j i hj hi hij
  rw [e1,e2] at this;omega
theorem nU {l m:List Int} (hl:Up l) (hm:Up m) (h:∀z,z∈l↔z∈m):l=m:=by
 have nd:∀{k:List Int},Up k→k.Nodup:=fun hk=>hk.imp fun h e=>by subst e;omega
 refine List.Perm.eq_of_pairwise (le:=fun a b:Int=>a.natAbs<b.natAbs) (fun a b _ _ h1 h2=>by omega) hl hm ?_
 exact (List.perm_ext_iff_of_nodup (nd hl) (nd hm)).2 h
theorem eM {xs l:List Int} (h1:Up l) (h2:∀z,z∈l↔z∈xs) (h3:∀x∈xs,wV x=false):wL xs=some l:=by
 have hs:=gF xs
 cases hn:wL xs with
 | none =>
  rw [hn] at hs
  rcases hs with ⟨x,hx,hb⟩|⟨x,hx,ho,h0⟩
  ·rw [h3 x hx] at hb;cases hb
  ·exact absurd (nW h1 ((h2 _).2 hx) ((h2 _).2 ho)) h0
 | some m =>
  rw [hn] at hs
  obtain ⟨u1,u2,_⟩:=hs
  rw [nU u1 h1 fun z=>(u2 z).trans (h2 z).symm]
theorem dX {xs:List Int} (h:(∃x∈xs,wV x=true)∨∃x∈xs, -x∈xs∧x≠0):wL xs=none:=by
 have hs:=gF xs
 cases hn:wL xs with
 | none=>rfl
 | some m =>
  rw [hn] at hs
  obtain ⟨u1,u2,u3⟩:=hs
  rcases h with ⟨x,hx,hb⟩|⟨x,hx,ho,h0⟩
  ·rw [u3 x hx] at hb;cases hb
  ·exact absurd (nW u1 ((u2 _).2 hx) ((u2 _).2 ho)) h0
def litLe (a b:Int):Prop:=a.natAbs<b.natAbs∨a.natAbs=b.natAbs∧a≤b
theorem fL (d:Array Int) (hs:∀i j,i<j→j<d.size→litLe d[i]! d[j]!):∀m,m≤d.size →
  (∀x,x∈Lib.compactUpTo d m↔∃j,j<m∧d[j]! = x)∧(Lib.compactUpTo d m).Pairwise (fun a b=>litLe a b∧a≠b):=by
 intro m
 induction m with
 | zero=>intro _;simp [Lib.compactUpTo]
 | succ m ih =>
  intro hm
  obtain ⟨i1,i2⟩:=ih (by omega)
  rw [Lib.compactUpTo_succ]
  by_cases hk:Lib.keeps d m=true
  ·rw [if_pos hk]
   constructor
   ·intro x
    simp only [zL,i1,zI]
    constructor
    ·rintro (⟨j,hj,rfl⟩|rfl)
     ·exact ⟨j,by omega,rfl⟩
     ·exact ⟨m,by omega,rfl⟩
    ·rintro ⟨j,hj,rfl⟩
     by_cases e:j=m
     ·subst e;exact .inr rfl
     ·exact .inl ⟨j,by omega,rfl⟩
   ·refine kQ.2 ⟨i2,by simp,fun a ha b hb => ?_⟩
    simp only [zI] at hb
    subst hb
    obtain ⟨j,hj,rfl⟩:=(i1 a).1 ha
    refine ⟨hs j m hj (by omega),fun e => ?_⟩
    simp only [Lib.keeps,qH] at hk
    rcases hk with hk|hk
    ·omega
    ·by_cases e2:j=m-1
     ·subst e2;exact hk e.symm
     ·have h1:=hs j (m-1) (by omega) (by omega)
      have h2:=hs (m-1) m (by omega) (by omega)
      rw [e] at h1
      unfold litLe at h1 h2
      exact hk (by omega)
  ·rw [if_neg hk]
   simp only [yS]
   refine ⟨fun x => ?_,i2⟩
   rw [i1]
   constructor
   ·rintro ⟨j,hj,rfl⟩;exact ⟨j,by omega,rfl⟩
   ·rintro ⟨j,hj,rfl⟩
    by_cases e:j=m
    ·subst e
     have hk':¬(j=0∨d[j]! ≠ d[j-1]!):=by simpa [Lib.keeps] using hk
     rw [jH,Classical.not_not] at hk'
     exact ⟨j-1,by omega,hk'.2.symm⟩
    ·exact ⟨j,by omega,rfl⟩
theorem eU (zs:List Int) (hs:zs.Pairwise litLe):(∀x,x∈Lib.compact zs↔x∈zs)∧(Lib.compact zs).Pairwise (fun a b=>litLe a b∧a≠b):=by
 have hget:∀j,j<zs.length→zs.toArray[j]! = zs[j]! := fun j hj=>by simp [hj]
 obtain ⟨h1,h2⟩:=fL zs.toArray (fun i j hij hj=>by
  have hj':j<zs.length:=by simpa using hj
  have:=qK.1 hs i j (by omega) hj' hij
  rw [hget i (by omega),hget j hj',xF,xF,List.getElem?_eq_getElem (by omega:i<zs.length),List.getElem?_eq_getElem hj']
  exact this) zs.length (by simp)
 refine ⟨fun x => ?_,h2⟩
 refine (h1 x).trans ⟨?_,fun hx => ?_⟩
 ·rintro ⟨j,hj,rfl⟩
  rw [hget j hj,xF,List.getElem?_eq_getElem hj]
  exact yY hj
 ·obtain ⟨j,hj,rfl⟩:=qZ hx
  exact ⟨j,hj,by rw [hget j hj,xF,List.getElem?_eq_getElem hj];rfl⟩
def Opp (t:List Int):Prop:=∃i a b,0<i∧t[i-1]? = some a∧t[i]? = some b∧a = -b
theorem lR {xs zs:List Int} (hg:∀x∈xs,wV x=false) (hp:∀x,x∈zs↔x∈xs) (hs:zs.Pairwise litLe) :
  (Opp (Lib.compact zs)→wL xs=none)∧(¬Opp (Lib.compact zs)→wL xs=some (Lib.compact zs)):=by
 obtain ⟨h1,h2⟩:=eU zs hs
 constructor
 ·rintro ⟨i,a,b,h0,ha,hb,e⟩
  have ma:=(hp _).1 ((h1 _).1 (List.mem_of_getElem? ha))
  have mb:=(hp _).1 ((h1 _).1 (List.mem_of_getElem? hb))
  refine dX (.inr ⟨b,mb,by rw [←e];exact ma,dT (hg b mb)⟩)
 ·intro hno
  refine eM ?_ (fun z=>(h1 z).trans (hp z)) hg
  unfold Up
  rw [qK] at h2 ⊢
  have step:∀i (h:i+1<(Lib.compact zs).length),((Lib.compact zs)[i]).natAbs<((Lib.compact zs)[i+1]).natAbs:=by
   intro i h
   obtain ⟨hle,hne⟩:=h2 i (i+1) (by omega) h (by omega)
   rcases hle with hlt|⟨he,_⟩
   ·exact hlt
   ·exact absurd ⟨i+1,_,_,by omega,List.getElem?_eq_getElem (by omega:i<_),List.getElem?_eq_getElem h,by omega⟩ hno
  intro i j hi hj hij
  obtain ⟨k,rfl⟩:∃k,j=i+1+k:=⟨j-i-1,by omega⟩
  induction k with
  | zero=>exact step i hj
  | succ k ih=>exact Nat.lt_trans (ih (by omega) (by omega)) (step (i+1+k) hj)
theorem insAbs_len {x:Int} {l l':List Int} (h:gM x l=some l'):l'.length≤l.length+1:=by
 induction l generalizing l' with
 | nil=>simp [gM] at h;subst h;simp
 | cons y r ih =>
  rw [gM] at h
  split at h
  ·obtain ⟨l2,hl2,rfl⟩:=qO.1 h
   have:=ih hl2
   simp;omega
  ·split at h
   ·injection h with h;subst h;simp
   ·split at h
    ·cases h
    ·injection h with h;subst h;simp
theorem fold_len (ys:List Int):∀(acc:Option (List Int)) (n:Nat),(∀l,acc=some l→l.length≤n)→∀l,ys.foldl dU acc=some l→l.length≤n+ys.length:=by
 induction ys with
 | nil=>intro acc n h l hl;simpa using h l hl
 | cons y r ih =>
  intro acc n h l hl
  have:=ih (dU acc y) (n+1) (fun m hm=>by
   cases acc with
   | none=>cases hm
   | some k =>
    have hm':(if wV y=true then none else gM y k)=some m:=hm
    split at hm'
    ·cases hm'
    ·have:=insAbs_len hm'
     have:=h k rfl
     omega) l hl
  simp only [qJ];omega
theorem rW {xs l:List Int} (h:wL xs=some l):l.length≤xs.length:=by
 have:=fold_len xs (some []) 0 (by simp) l h
 omega
theorem sQ {xs l:List Int} (h:wL xs=some l) {P:Int→Prop} (hx:∀x∈xs,P x):∀x∈l,P x:=by
 have hs:=gF xs
 rw [h] at hs
 exact fun x hm=>hx x ((hs.2.1 x).1 hm)
structure Lit1 where
 val:Int
 ok : -9223372036854775807≤val∧val≤9223372036854775807∧val≠0
instance:Inhabited Lit1:=⟨⟨1,by omega⟩⟩
def encL (x:Lit1):Value := .int .i64 x.val
def cmpL (x y:Lit1):Int :=
 if x.val.natAbs≠y.val.natAbs then (x.val.natAbs:Int)-y.val.natAbs else if x.val<y.val then -1 else if y.val<x.val then 1 else 0
theorem ltL (x y:Lit1):ltOf cmpL x y=decide (x.val.natAbs<y.val.natAbs∨x.val.natAbs=y.val.natAbs∧x.val<y.val):=by
 unfold ltOf
 apply vM.2
 unfold cmpL
 split
 ·omega
 ·split
  ·omega
  ·split<;>omega
theorem swoL:Sort.SWO (ltOf cmpL) where
 irrefl x:=by rw [ltL];simp
 trans x y z h1 h2:=by rw [ltL] at *;simp only [qH] at *;omega
 ntrans x y z h1 h2:=by rw [ltL] at *;simp only [decide_eq_false_iff_not] at *;omega
theorem totL (x y:Lit1) (h1:ltOf cmpL x y=false) (h2:ltOf cmpL y x=false):x=y:=by
 rw [ltL] at h1 h2
 simp only [decide_eq_false_iff_not] at h1 h2
 cases x;cases y;simp only at h1 h2;congr 1;omega
theorem sortedL (l:List Lit1):((l.mergeSort fun x y => !ltOf cmpL y x).map Lit1.val).Pairwise litLe∧∀x,x∈(l.mergeSort fun x y => !ltOf cmpL y x).map Lit1.val↔x∈l.map Lit1.val:=by
 constructor
 ·rw [yO]
  refine (List.pairwise_mergeSort (le:=fun x y => !ltOf cmpL y x) ?_ ?_ l).imp ?_
  ·intro a b c h1 h2
   simp only [vD] at *
   exact swoL.ntrans _ _ _ h2 h1
  ·intro a b
   rw [ltL,ltL]
   simp only [Bool.or_eq_true,vD,decide_eq_false_iff_not]
   omega
  ·intro a b h
   simp only [vD] at h
   rw [ltL] at h
   simp only [decide_eq_false_iff_not] at h
   unfold litLe
   omega
 ·intro x
  simp only [List.mem_map]
  constructor
  ·rintro ⟨y,hy,rfl⟩;exact ⟨y,(jN _ _).mem_iff.1 hy,rfl⟩
  ·rintro ⟨y,hy,rfl⟩;exact ⟨y,(jN _ _).mem_iff.2 hy,rfl⟩
theorem lits_of (xs:List Int) (h:∀x∈xs, -9223372036854775807≤x∧x≤9223372036854775807∧x≠0):∃l:List Lit1,l.map Lit1.val=xs:=by
 induction xs with
 | nil=>exact ⟨[],rfl⟩
 | cons x r ih =>
  obtain ⟨l,hl⟩:=ih fun y hy=>h y (by simp [hy])
  exact ⟨⟨x,h x (by simp)⟩::l,by simp [hl]⟩
structure Stp where
 kind:Int
 index:Int
 lits:List Int
 p:Int
 q:Int
 var:Int
def eK (ds:List Diff) (k:Nat):Prop:=∀(i:Nat) (a b:Diff),i<k→ds[i]? = some a→ds[(i+1) % ds.length]? = some b→a.y=b.x
def csum (ds:List Diff):Int:=(ds.map Diff.c).sum
def Cyc (ds:List Diff):Prop:=0<ds.length∧eK ds ds.length∧csum ds<0
open Classical in
noncomputable def cycB (ds:List Diff):Bool:=decide (Cyc ds)
def iR (atoms:List Diff):List Int→Option (List Diff)
 | []=>some []
 | x::r=>match bound atoms x,iR atoms r with
  | some d,some ds=>some (d::ds)
  | _,_=>none
theorem bB {atoms:List Diff} {lits:List Int} {ds:List Diff}:iR atoms lits=some ds↔lits.map (bound atoms)=ds.map some:=by
 induction lits generalizing ds with
 | nil=>cases ds<;>simp [iR]
 | cons x r ih =>
  rw [iR]
  cases h:bound atoms x with
  | none=>cases ds<;>simp [h]
  | some d =>
   cases h2:iR atoms r with
   | none =>
    constructor
    ·intro h;cases h
    ·intro h3
     cases ds with
     | nil=>simp at h3
     | cons e es =>
      rw [qD,qD] at h3
      injection h3 with _ h4
      rw [←ih,h2] at h4
      cases h4
   | some es =>
    cases ds with
    | nil=>simp
    | cons e rs =>
     rw [qD,qD,h]
     constructor
     ·intro h3
      injection h3 with h3
      injection h3 with h3 h4
      subst h3 h4
      rw [ih.1 h2]
     ·intro h3
      injection h3 with h3 h4
      injection h3 with h3
      rw [←ih,h2] at h4
      injection h4 with h4
      rw [h3,h4]
theorem bnds_none {atoms:List Diff} {lits:List Int} {x:Int} (hx:x∈lits) (h:bound atoms x=none):iR atoms lits=none:=by
 cases e:iR atoms lits with
 | none=>rfl
 | some ds =>
  have h1:=bB.1 e
  have h2:bound atoms x∈ds.map some:=by rw [←h1];exact List.mem_map.2 ⟨x,hx,rfl⟩
  rw [h] at h2
  obtain ⟨d,_,hd⟩:=List.mem_map.1 h2
  cases hd
noncomputable def cyc (atoms:List Diff) (lits:List Int):Option (List Int) :=
 match iR atoms lits with
 | some ds=>if cycB ds=true then wL (lits.map (fun x => -x)) else none
 | none=>none
def res (p q:List Int) (v:Int):Option (List Int) :=
 if 0≤v∧v<1024∧v+1∈p ∧ -(v+1)∈q then wL (p.filter (fun x=>decide (x≠v+1))++q.filter (fun x=>decide (x ≠ -(v+1)))) else none
noncomputable def deriv (f:Form) (s:Stp) (cs:List (List Int)):Option (List Int) :=
 if s.kind=1 then (if 0≤s.index then (f.clauses[s.index.toNat]?).bind wL else none)
 else if s.kind=2 then cyc f.atoms s.lits
 else if s.kind=3 then (if 0≤s.p∧0≤s.q then (cs[s.p.toNat]?).bind fun a=>(cs[s.q.toNat]?).bind fun b=>res a b s.var else none)
 else none
noncomputable def wZ (f:Form):List (List Int)→List Stp→List (List Int) × Bool
 | cs,[]=>(cs,true)
 | cs,s::r=>match deriv f s cs with
  | some c=>wZ f (cs++[c]) r
  | none=>(cs,false)
theorem fT {f:Form} {cs:List (List Int)} {l:List Stp} {k:Nat} {s:Stp} (hk:l[k]? = some s) {c:List Int} (hd:deriv f s cs=some c):wZ f (cs++[c]) (l.drop (k+1))=wZ f cs (l.drop k):=by
 obtain ⟨h1,h2⟩:=zG.1 hk
 rw [zT h1,h2,wZ,hd]
theorem gU {f:Form} {cs:List (List Int)} {l:List Stp} {k:Nat} {s:Stp} (hk:l[k]? = some s) (hd:deriv f s cs=none):wZ f cs (l.drop k)=(cs,false):=by
 obtain ⟨h1,h2⟩:=zG.1 hk
 rw [zT h1,h2,wZ,hd]
theorem runS_end {f:Form} {cs:List (List Int)} {l:List Stp} {k:Nat} (hk:l.length≤k):wZ f cs (l.drop k)=(cs,true):=by
 rw [qV hk,wZ]
end Go.Proofs.Yticieifacalocaa
