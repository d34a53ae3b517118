/- Norm Step SolMod -/
import Derived.Lib.SlicesCompact
import Derived.Shelf.SlSortCmp.Insertion
import Derived.Test.YticieifacalocaaTSC3
namespace Go.Proofs.Yticieifacalocaa
def gL (x:Int):Bool:=x == 0 || x == -9223372036854775808
def dC (x:Int):List Int→Option (List Int)
 | []=>some [x]
 | y::r=>if y.natAbs<x.natAbs then (dC x r).map (y::·) else if y=x then some (y::r) else if y = -x then none else some (x::y::r)
def bT (acc:Option (List Int)) (x:Int):Option (List Int):=acc.bind fun l=>if gL x then none else dC x l
def gB (xs:List Int):Option (List Int):=xs.foldl bT (some [])
theorem norm_snoc (xs:List Int) (x:Int):gB (xs++[x])=bT (gB xs) x:=by simp [gB]
def Up (l:List Int):Prop:=l.Pairwise fun a b=>a.natAbs<b.natAbs
theorem insAbs_some {x:Int} {l l':List Int} (hx:x≠0) (hl:Up l) (h:dC x l=some l'):Up l'∧∀z,z∈l'↔z=x∨z∈l:=by
 induction l generalizing l' with
 | nil=>simp [dC] at h;subst h;simp [Up]
 | cons y r ih =>
  obtain ⟨h1,h2⟩:=xC.1 hl
  rw [dC] at h
  by_cases a:y.natAbs<x.natAbs
  ·rw [if_pos a] at h
   obtain ⟨l2,hl2,rfl⟩:=qW.1 h
   obtain ⟨i1,i2⟩:=ih h2 hl2
   refine ⟨xC.2 ⟨fun z hz => ?_,i1⟩,fun z => ?_⟩
   ·rcases (i2 z).1 hz with rfl|hz
    ·exact a
    ·exact h1 z hz
   ·simp only [zW,i2]
    constructor<;>rintro (h|h|h)<;>simp [h]
  ·rw [if_neg a] at h
   by_cases b:y=x
   ·rw [if_pos b] at h
    injection h with h
    subst h
    exact ⟨hl,fun z=>by subst b;simp⟩
   ·rw [if_neg b] at h
    by_cases c:y = -x
    ·rw [if_pos c] at h;cases h
    ·rw [if_neg c] at h
     injection h with h
     subst h
     refine ⟨xC.2 ⟨fun z hz => ?_,hl⟩,fun z=>by simp⟩
     rcases zW.1 hz with rfl|hz
     ·omega
     ·have:=h1 z hz;omega
theorem sD {x:Int} {l:List Int} (h:dC x l=none) : -x∈l:=by
 induction l with
 | nil=>simp [dC] at h
 | cons y r ih =>
  rw [dC] at h
  by_cases a:y.natAbs<x.natAbs
  ·rw [if_pos a] at h
   exact jO _ (ih (by simpa using h))
  ·rw [if_neg a] at h
   by_cases b:y=x
   ·rw [if_pos b] at h;cases h
   ·rw [if_neg b] at h
    by_cases c:y = -x
    ·rw [c];simp
    ·rw [if_neg c] at h;cases h
def iV (xs:List Int):Option (List Int)→Prop
 | none=>(∃x∈xs,gL x=true)∨∃x∈xs, -x∈xs∧x≠0
 | some l=>Up l∧(∀z,z∈l↔z∈xs)∧∀x∈xs,gL x=false
theorem bQ {x:Int} (h:gL x=false):x≠0:=by
 rintro rfl;simp [gL] at h
theorem sG (ys:List Int):∀(pre:List Int) (acc:Option (List Int)),iV pre acc→iV (pre++ys) (ys.foldl bT acc):=by
 induction ys with
 | nil=>intro pre acc h;simpa using h
 | cons y r ih =>
  intro pre acc h
  have key:iV (pre++[y]) (bT acc y):=by
   cases acc with
   | none =>
    show iV _ none
    rcases h with ⟨x,hx,hb⟩|⟨x,hx,hn⟩
    ·exact .inl ⟨x,by simp [hx],hb⟩
    ·exact .inr ⟨x,by simp [hx],by simp [hn.1],hn.2⟩
   | some l =>
    obtain ⟨h1,h2,h3⟩:=h
    show iV _ (if gL y=true then none else dC y l)
    by_cases hb:gL y=true
    ·rw [if_pos hb];exact .inl ⟨y,by simp,hb⟩
    ·rw [if_neg hb]
     have hb':gL y=false:=by simpa using hb
     have hy:=bQ hb'
     cases hi:dC y l with
     | none=>exact .inr ⟨y,by simp,by simp [(h2 _).1 (sD hi)],hy⟩
     | some l' =>
      obtain ⟨u1,u2⟩:=insAbs_some hy h1 hi
      refine ⟨u1,fun z => ?_,fun x hx => ?_⟩
      ·rw [u2,h2];simp [or_comm]
      ·rcases zK.1 hx with hx|hx
       ·exact h3 x hx
       ·simp at hx;subst hx;exact hb'
  have:=ih (pre++[y]) (bT acc y) key
  simpa using this
theorem gV (xs:List Int):iV xs (gB xs):=by
 have:=sG xs [] (some []) ⟨List.Pairwise.nil,by simp,by simp⟩
 simpa [gB] using this
theorem oU {l:List Int} (h:Up l) {x:Int} (hx:x∈l) (hn : -x∈l):x=0:=by
 obtain ⟨i,hi,e1⟩:=yD hx
 obtain ⟨j,hj,e2⟩:=yD hn
 rcases xT i j with hij|hij|hij
 ·have:=qT.1 h i j hi hj hij
  rw [e1,e2] at this;omega
 ·subst hij;rw [e1] at e2;omega
 ·have:=qT.1 h j i hj hi hij
  rw [e1,e2] at this;omega
theorem pD {l m:List Int} (hl:Up l) (hm:Up m) (h:∀z,z∈l↔z∈m):l=m:=by
 have nd:∀{k:List Int},Up k→k.Nodup:=fun hk=>hk.imp fun h e=>by subst e;omega
 refine List.Perm.eq_of_pairwise (le:=fun a b:Int=>a.natAbs<b.natAbs) (fun a b _ _ h1 h2=>by omega) hl hm ?_
 exact (List.perm_ext_iff_of_nodup (nd hl) (nd hm)).2 h
theorem iM {xs l:List Int} (h1:Up l) (h2:∀z,z∈l↔z∈xs) (h3:∀x∈xs,gL x=false):gB xs=some l:=by
 have hs:=gV xs
 cases hn:gB xs with
 | none =>
  rw [hn] at hs
  rcases hs with ⟨x,hx,hb⟩|⟨x,hx,ho,h0⟩
  ·rw [h3 x hx] at hb;cases hb
  ·exact absurd (oU h1 ((h2 _).2 hx) ((h2 _).2 ho)) h0
 | some m =>
  rw [hn] at hs
  obtain ⟨u1,u2,_⟩:=hs
  rw [pD u1 h1 fun z=>(u2 z).trans (h2 z).symm]
theorem bX {xs:List Int} (h:(∃x∈xs,gL x=true)∨∃x∈xs, -x∈xs∧x≠0):gB xs=none:=by
 have hs:=gV xs
 cases hn:gB xs with
 | none=>rfl
 | some m =>
  rw [hn] at hs
  obtain ⟨u1,u2,u3⟩:=hs
  rcases h with ⟨x,hx,hb⟩|⟨x,hx,ho,h0⟩
  ·rw [u3 x hx] at hb;cases hb
  ·exact absurd (oU u1 ((u2 _).2 hx) ((u2 _).2 ho)) h0
def litLe (a b:Int):Prop:=a.natAbs<b.natAbs∨a.natAbs=b.natAbs∧a≤b
theorem lK (d:Array Int) (hs:∀i j,i<j→j<d.size→litLe d[i]! d[j]!):∀m,m≤d.size →
  (∀x,x∈Lib.compactUpTo d m↔∃j,j<m∧d[j]! = x)∧(Lib.compactUpTo d m).Pairwise (fun a b=>litLe a b∧a≠b):=by
 intro m
 induction m with
 | zero=>intro _;simp [Lib.compactUpTo]
 | succ m ih =>
  intro hm
  obtain ⟨i1,i2⟩:=ih (by omega)
  rw [Lib.compactUpTo_succ]
  by_cases hk:Lib.keeps d m=true
  ·rw [if_pos hk]
   constructor
   ·intro x
    simp only [zK,i1,zI]
    constructor
    ·rintro (⟨j,hj,rfl⟩|rfl)
     ·exact ⟨j,by omega,rfl⟩
     ·exact ⟨m,by omega,rfl⟩
    ·rintro ⟨j,hj,rfl⟩
     by_cases e:j=m
     ·subst e;exact .inr rfl
     ·exact .inl ⟨j,by omega,rfl⟩
   ·refine kV.2 ⟨i2,by simp,fun a ha b hb => ?_⟩
    simp only [zI] at hb
    subst hb
    obtain ⟨j,hj,rfl⟩:=(i1 a).1 ha
    refine ⟨hs j m hj (by omega),fun e => ?_⟩
    simp only [Lib.keeps,qO] at hk
    rcases hk with hk|hk
    ·omega
    ·by_cases e2:j=m-1
     ·subst e2;exact hk e.symm
     ·have h1:=hs j (m-1) (by omega) (by omega)
      have h2:=hs (m-1) m (by omega) (by omega)
      rw [e] at h1
      unfold litLe at h1 h2
      exact hk (by omega)
  ·rw [if_neg hk]
   simp only [xA]
   refine ⟨fun x => ?_,i2⟩
   rw [i1]
   constructor
   ·rintro ⟨j,hj,rfl⟩;exact ⟨j,by omega,rfl⟩
   ·rintro ⟨j,hj,rfl⟩
    by_cases e:j=m
    ·subst e
     have hk':¬(j=0∨d[j]! ≠ d[j-1]!):=by simpa [Lib.keeps] using hk
     rw [jC,Classical.not_not] at hk'
     exact ⟨j-1,by omega,hk'.2.symm⟩
    ·exact ⟨j,by omega,rfl⟩
theorem fQ (zs:List Int) (hs:zs.Pairwise litLe):(∀x,x∈Lib.compact zs↔x∈zs)∧(Lib.compact zs).Pairwise (fun a b=>litLe a b∧a≠b):=by
 have hget:∀j,j<zs.length→zs.toArray[j]! = zs[j]! := fun j hj=>by simp [hj]
 obtain ⟨h1,h2⟩:=lK zs.toArray (fun i j hij hj=>by
  have hj':j<zs.length:=by simpa using hj
  have:=qT.1 hs i j (by omega) hj' hij
  rw [hget i (by omega),hget j hj',xP,xP,List.getElem?_eq_getElem (by omega:i<zs.length),List.getElem?_eq_getElem hj']
  exact this) zs.length (by simp)
 refine ⟨fun x => ?_,h2⟩
 refine (h1 x).trans ⟨?_,fun hx => ?_⟩
 ·rintro ⟨j,hj,rfl⟩
  rw [hget j hj,xP,List.getElem?_eq_getElem hj]
  exact yQ hj
 ·obtain ⟨j,hj,rfl⟩:=yD hx
  exact ⟨j,hj,by rw [hget j hj,xP,List.getElem?_eq_getElem hj];rfl⟩
def Opp (t:List Int):Prop:=∃i a b,0<i∧t[i-1]? = some a∧t[i]? = some b∧a = -b
theorem mP {xs zs:List Int} (hg:∀x∈xs,gL x=false) (hp:∀x,x∈zs↔x∈xs) (hs:zs.Pairwise litLe) :
  (Opp (Lib.compact zs)→gB xs=none)∧(¬Opp (Lib.compact zs)→gB xs=some (Lib.compact zs)):=by
 obtain ⟨h1,h2⟩:=fQ zs hs
 constructor
 ·rintro ⟨i,a,b,h0,ha,hb,e⟩
  have ma:=(hp _).1 ((h1 _).1 (List.mem_of_getElem? ha))
  have mb:=(hp _).1 ((h1 _).1 (List.mem_of_getElem? hb))
  refine bX (.inr ⟨b,mb,by rw [←e];exact ma,bQ (hg b mb)⟩)
 ·intro hno
  refine iM ?_ (fun z=>(h1 z).trans (hp z)) hg
  unfold Up
  rw [qT] at h2 ⊢
  have step:∀i (h:i+1<(Lib.compact zs).length),((Lib.compact zs)[i]).natAbs<((Lib.compact zs)[i+1]).natAbs:=by
   intro i h
   obtain ⟨hle,hne⟩:=h2 i (i+1) (by omega) h (by omega)
   rcases hle with hlt|⟨he,_⟩
   ·exact hlt
   ·exact absurd ⟨i+1,_,_,by omega,List.getElem?_eq_getElem (by omega:i<_),List.getElem?_eq_getElem h,by omega⟩ hno
  intro i j hi hj hij
  obtain ⟨k,rfl⟩:∃k,j=i+1+k:=⟨j-i-1,by omega⟩
  induction k with
  | zero=>exact step i hj
  | succ k ih=>exact Nat.lt_trans (ih (by omega) (by omega)) (step (i+1+k) hj)
theorem insAbs_len {x:Int} {l l':List Int} (h:dC x l=some l'):l'.length≤l.length+1:=by
 induction l generalizing l' with
 | nil=>simp [dC] at h;subst h;simp
 | cons y r ih =>
  rw [dC] at h
  split at h
  ·obtain ⟨l2,hl2,rfl⟩:=qW.1 h
   have:=ih hl2
   simp;omega
  ·split at h
   ·injection h with h;subst h;simp
   ·split at h
    ·cases h
    ·injection h with h;subst h;simp
theorem fold_len (ys:List Int):∀(acc:Option (List Int)) (n:Nat),(∀l,acc=some l→l.length≤n)→∀l,ys.foldl bT acc=some l→l.length≤n+ys.length:=by
 induction ys with
 | nil=>intro acc n h l hl;simpa using h l hl
 | cons y r ih =>
  intro acc n h l hl
  have:=ih (bT acc y) (n+1) (fun m hm=>by
   cases acc with
   | none=>cases hm
   | some k =>
    have hm':(if gL y=true then none else dC y k)=some m:=hm
    split at hm'
    ·cases hm'
    ·have:=insAbs_len hm'
     have:=h k rfl
     omega) l hl
  simp only [qP];omega
theorem tJ {xs l:List Int} (h:gB xs=some l):l.length≤xs.length:=by
 have:=fold_len xs (some []) 0 (by simp) l h
 omega
theorem tA {xs l:List Int} (h:gB xs=some l) {P:Int→Prop} (hx:∀x∈xs,P x):∀x∈l,P x:=by
 have hs:=gV xs
 rw [h] at hs
 exact fun x hm=>hx x ((hs.2.1 x).1 hm)
structure Lit1 where
 val:Int
 ok : -9223372036854775807≤val∧val≤9223372036854775807∧val≠0
instance:Inhabited Lit1:=⟨⟨1,by omega⟩⟩
def encL (x:Lit1):Value := .int .i64 x.val
def cmpL (x y:Lit1):Int :=
 if x.val.natAbs≠y.val.natAbs then (x.val.natAbs:Int)-y.val.natAbs else if x.val<y.val then -1 else if y.val<x.val then 1 else 0
theorem ltL (x y:Lit1):ltOf cmpL x y=decide (x.val.natAbs<y.val.natAbs∨x.val.natAbs=y.val.natAbs∧x.val<y.val):=by
 unfold ltOf
 apply vX.2
 unfold cmpL
 split
 ·omega
 ·split
  ·omega
  ·split<;>omega
theorem swoL:Sort.SWO (ltOf cmpL) where
 irrefl x:=by rw [ltL];simp
 trans x y z h1 h2:=by rw [ltL] at *;simp only [qO] at *;omega
 ntrans x y z h1 h2:=by rw [ltL] at *;simp only [decide_eq_false_iff_not] at *;omega
theorem totL (x y:Lit1) (h1:ltOf cmpL x y=false) (h2:ltOf cmpL y x=false):x=y:=by
 rw [ltL] at h1 h2
 simp only [decide_eq_false_iff_not] at h1 h2
 cases x;cases y;simp only at h1 h2;congr 1;omega
theorem sortedL (l:List Lit1):((l.mergeSort fun x y => !ltOf cmpL y x).map Lit1.val).Pairwise litLe∧∀x,x∈(l.mergeSort fun x y => !ltOf cmpL y x).map Lit1.val↔x∈l.map Lit1.val:=by
 constructor
 ·rw [yS]
  refine (List.pairwise_mergeSort (le:=fun x y => !ltOf cmpL y x) ?_ ?_ l).imp ?_
  ·intro a b c h1 h2
   simp only [vK] at *
   exact swoL.ntrans _ _ _ h2 h1
  ·intro a b
   rw [ltL,ltL]
   simp only [Bool.or_eq_true,vK,decide_eq_false_iff_not]
   omega
  ·intro a b h
   simp only [vK] at h
   rw [ltL] at h
   simp only [decide_eq_false_iff_not] at h
   unfold litLe
   omega
 ·intro x
  simp only [List.mem_map]
  constructor
  ·rintro ⟨y,hy,rfl⟩;exact ⟨y,(jX _ _).mem_iff.1 hy,rfl⟩
  ·rintro ⟨y,hy,rfl⟩;exact ⟨y,(jX _ _).mem_iff.2 hy,rfl⟩
theorem lits_of (xs:List Int) (h:∀x∈xs, -9223372036854775807≤x∧x≤9223372036854775807∧x≠0):∃l:List Lit1,l.map Lit1.val=xs:=by
 induction xs with
 | nil=>exact ⟨[],rfl⟩
 | cons x r ih =>
  obtain ⟨l,hl⟩:=ih fun y hy=>h y (by simp [hy])
  exact ⟨⟨x,h x (by simp)⟩::l,by simp [hl]⟩
structure Stp where
 kind:Int
 index:Int
 lits:List Int
 p:Int
 q:Int
 var:Int
def aV (ds:List Diff) (k:Nat):Prop:=∀(i:Nat) (a b:Diff),i<k→ds[i]? = some a→ds[(i+1) % ds.length]? = some b→a.y=b.x
def csum (ds:List Diff):Int:=(ds.map Diff.c).sum
def Cyc (ds:List Diff):Prop:=0<ds.length∧aV ds ds.length∧csum ds<0
open Classical in
noncomputable def cycB (ds:List Diff):Bool:=decide (Cyc ds)
def lB (atoms:List Diff):List Int→Option (List Diff)
 | []=>some []
 | x::r=>match bound atoms x,lB atoms r with
  | some d,some ds=>some (d::ds)
  | _,_=>none
theorem bA {atoms:List Diff} {lits:List Int} {ds:List Diff}:lB atoms lits=some ds↔lits.map (bound atoms)=ds.map some:=by
 induction lits generalizing ds with
 | nil=>cases ds<;>simp [lB]
 | cons x r ih =>
  rw [lB]
  cases h:bound atoms x with
  | none=>cases ds<;>simp [h]
  | some d =>
   cases h2:lB atoms r with
   | none =>
    constructor
    ·intro h;cases h
    ·intro h3
     cases ds with
     | nil=>simp at h3
     | cons e es =>
      rw [zY,zY] at h3
      injection h3 with _ h4
      rw [←ih,h2] at h4
      cases h4
   | some es =>
    cases ds with
    | nil=>simp
    | cons e rs =>
     rw [zY,zY,h]
     constructor
     ·intro h3
      injection h3 with h3
      injection h3 with h3 h4
      subst h3 h4
      rw [ih.1 h2]
     ·intro h3
      injection h3 with h3 h4
      injection h3 with h3
      rw [←ih,h2] at h4
      injection h4 with h4
      rw [h3,h4]
theorem bnds_none {atoms:List Diff} {lits:List Int} {x:Int} (hx:x∈lits) (h:bound atoms x=none):lB atoms lits=none:=by
 cases e:lB atoms lits with
 | none=>rfl
 | some ds =>
  have h1:=bA.1 e
  have h2:bound atoms x∈ds.map some:=by rw [←h1];exact List.mem_map.2 ⟨x,hx,rfl⟩
  rw [h] at h2
  obtain ⟨d,_,hd⟩:=List.mem_map.1 h2
  cases hd
noncomputable def cyc (atoms:List Diff) (lits:List Int):Option (List Int) :=
 match lB atoms lits with
 | some ds=>if cycB ds=true then gB (lits.map (fun x => -x)) else none
 | none=>none
def res (p q:List Int) (v:Int):Option (List Int) :=
 if 0≤v∧v<1024∧v+1∈p ∧ -(v+1)∈q then gB (p.filter (fun x=>decide (x≠v+1))++q.filter (fun x=>decide (x ≠ -(v+1)))) else none
noncomputable def deriv (f:Form) (s:Stp) (cs:List (List Int)):Option (List Int) :=
 if s.kind=1 then (if 0≤s.index then (f.clauses[s.index.toNat]?).bind gB else none)
 else if s.kind=2 then cyc f.atoms s.lits
 else if s.kind=3 then (if 0≤s.p∧0≤s.q then (cs[s.p.toNat]?).bind fun a=>(cs[s.q.toNat]?).bind fun b=>res a b s.var else none)
 else none
noncomputable def gE (f:Form):List (List Int)→List Stp→List (List Int) × Bool
 | cs,[]=>(cs,true)
 | cs,s::r=>match deriv f s cs with
  | some c=>gE f (cs++[c]) r
  | none=>(cs,false)
theorem eR {f:Form} {cs:List (List Int)} {l:List Stp} {k:Nat} {s:Stp} (hk:l[k]? = some s) {c:List Int} (hd:deriv f s cs=some c):gE f (cs++[c]) (l.drop (k+1))=gE f cs (l.drop k):=by
 obtain ⟨h1,h2⟩:=zG.1 hk
 rw [zU h1,h2,gE,hd]
theorem dF {f:Form} {cs:List (List Int)} {l:List Stp} {k:Nat} {s:Stp} (hk:l[k]? = some s) (hd:deriv f s cs=none):gE f cs (l.drop k)=(cs,false):=by
 obtain ⟨h1,h2⟩:=zG.1 hk
 rw [zU h1,h2,gE,hd]
theorem sE {f:Form} {cs:List (List Int)} {l:List Stp} {k:Nat} (hk:l.length≤k):gE f cs (l.drop k)=(cs,true):=by
 rw [yE hk,gE]
theorem sQ {l:List Int} (h:Up l):l.Nodup:=h.imp fun h e=>by rw [e] at h;omega
theorem oY {l:List Int} (hn:l.Nodup) {i:Nat} {x:Int} (hi:l[i]? = some x):l.filter (fun y=>decide (y≠x))=l.take i++l.drop (i+1):=by
 obtain ⟨h1,h2⟩:=zG.1 hi
 have hs:l=l.take i++x::l.drop (i+1):=by
  rw [←h2,←zU h1,xN]
 have hn':=hn
 rw [hs,qJ] at hn'
 obtain ⟨n1,n2,n3⟩:=hn'
 rw [yP] at n2
 have e1:(l.take i).filter (fun y=>decide (y≠x))=l.take i:=xJ.2 fun y hy=>by
  have:=n3 y hy x (by simp)
  simpa using this
 have e2:(l.drop (i+1)).filter (fun y=>decide (y≠x))=l.drop (i+1):=xJ.2 fun y hy=>by
  have:y≠x:=fun e=>n2.1 (e ▸ hy)
  simpa using this
 conv=>lhs;rw [hs]
 rw [List.filter_append,List.filter_cons,e1,e2]
 simp
def vr (l:Int):Nat:=l.natAbs-1
def LIM:Nat:=1099511627776
structure Eng where
 cls:List (List Int)
 inp:List Nat
 wat:Int→List Nat
 val:List Int
 rsn:List Int
 lvl:List Int
 tr:List Int
 st:List Nat
 hd:Nat
def Eng.new (B:Nat):Eng:=⟨[],[],fun _=>[],List.replicate B 0,List.replicate B (-1),List.replicate B 0,[],[],0⟩
def tv (val:List Int) (l:Int):Int:=if l<0 then -(val.getD (vr l) 0) else val.getD (vr l) 0
def litB (B:Nat) (l:Int):Bool:=decide (l≠0∧vr l<B)
def upd (m:Int→List Nat) (l:Int) (x:List Nat):Int→List Nat:=fun k=>if k=l then x else m k
def Eng.assign (e:Eng) (l r:Int):Eng :=
 { e with val:=e.val.set (vr l) (if l<0 then -1 else 1),rsn:=e.rsn.set (vr l) r,lvl:=e.lvl.set (vr l) e.st.length,tr:=e.tr++[l] }
def Eng.cl (e:Eng) (c:Nat):List Int:=e.cls.getD c []
def swp (l:List Int) (i j:Nat):List Int:=(l.set i (l.getD j 0)).set j (l.getD i 0)
def Eng.swap (e:Eng) (c i j:Nat):Eng:={ e with cls:=e.cls.set c (swp (e.cl c) i j) }
def Eng.watch (e:Eng) (l:Int) (c:Nat):Eng:={ e with wat:=upd e.wat l (e.wat l++[c]) }
def Eng.attach (e:Eng) (c:Nat):Eng:=(e.watch ((e.cl c).getD 0 0) c).watch ((e.cl c).getD 1 0) c
def openAt (val:List Int) (cl:List Int) (i:Nat):Option Nat:=(List.range' i (cl.length-i)).find? fun j=>decide (0≤tv val (cl.getD j 0))
def Eng.moved (e:Eng) (c i:Nat):Eng:=(e.swap c 1 i).watch ((e.cl c).getD i 0) c
def Eng.clOk (e:Eng) (c:Nat):Bool:=decide (c<e.cls.length) && decide (2≤(e.cl c).length) && (e.cl c).all (litB e.val.length)
def dL (lit:Int):Eng→List Nat→List Nat→Option (Eng × Int)
 | e,[],kept=>some ({ e with wat:=upd e.wat lit kept }, -1)
 | e,c::rest,kept =>
  if e.clOk c=true then
   let e1:=if (e.cl c).getD 0 0=lit then e.swap c 0 1 else e
   let l0:=(e1.cl c).getD 0 0
   if tv e1.val l0≤0 then
    match openAt e1.val (e1.cl c) 2 with
    | some i=>if (e1.cl c).getD i 0≠lit∧(e1.wat ((e1.cl c).getD i 0)).length<LIM then dL lit (e1.moved c i) rest kept else none
    | none=>if tv e1.val l0=0 then (if e1.tr.length<LIM then dL lit (e1.assign l0 c) rest (kept++[c]) else none) else some ({ e1 with wat:=upd e1.wat lit (kept++[c]++rest) },c)
   else dL lit e1 rest (kept++[c])
  else none
def fH:Nat→Eng→Option (Eng × Int)
 | 0,_=>none
 | n+1,e =>
  match e.tr[e.hd]? with
  | none=>some (e, -1)
  | some lit =>
   if litB e.val.length lit=true then
    match dL (-lit) { e with hd:=e.hd+1 } (e.wat (-lit)) [] with
    | none=>none
    | some (e2,c)=>if 0≤c then some (e2,c) else fH n e2
   else none
def dG (gB:List Int→Option (List Int)):Nat→List (List Int)→Eng→Option (Eng × Int)
 | _,[],e=>some (e, -1)
 | i,g::rest,e =>
  match gB g with
  | none=>dG gB (i+1) rest e
  | some cl =>
   if cl.all (litB e.val.length)=true then
    let c:=e.cls.length
    let e1:={ e with cls:=e.cls++[cl],inp:=e.inp++[i] }
    match cl with
    | []=>some (e1,c)
    | [l]=>if tv e1.val l<0 then some (e1,c) else if tv e1.val l=0 then dG gB (i+1) rest (e1.assign l c) else dG gB (i+1) rest e1
    | _=>dG gB (i+1) rest (e1.attach c)
   else none
def mF (x:Int):Bool:=decide (-1152921504606846976≤x∧x≤1152921504606846976)
def tR (N:Nat) (a:Arc):Bool:=decide (0≤a.x∧a.x<N∧0≤a.y∧a.y<N ∧ -2097152≤a.c∧a.c≤2097152)
def gT (ay n:Int):List Arc→List Int→List Arc→List Bool→List Int→Option ((List Int × List Arc × List Bool × List Int) ⊕ List Arc)
 | [],num,by_,wait,q=>some (.inl (num,by_,wait,q))
 | b::rest,num,by_,wait,q =>
  if tR num.length b=true∧mF (gi num n)=true then
   if gi num b.x≤gi num n+b.c then gT ay n rest num by_ wait q
   else if b.x=ay then some (.inr (by_.set b.x.toNat b))
   else if q.length<1000 then gT ay n rest (num.set b.x.toNat (gi num n+b.c)) (by_.set b.x.toNat b) (if wait.getD b.x.toNat false=true then wait else wait.set b.x.toNat true) (if wait.getD b.x.toNat false=true then q else q++[b.x])
   else none
  else none
def fC (by_:List Arc) (r:Int):Nat→Int→Option (List Int)
 | 0,_=>none
 | k+1,n=>if n=r then some [] else if 0≤n∧n<by_.length then (fC by_ r k (ga by_ n).y).map ((ga by_ n).lit::·) else none
def dO (arcs:List (List Arc)) (a:Arc):Nat→List Int→List Arc→List Bool→List Int→Option (List Int ⊕ List Int)
 | 0,_,_,_,_=>none
 | _+1,num,_,_,[]=>some (.inl num)
 | k+1,num,by_,wait,n::q =>
  if 0≤n∧n<num.length then
   match gT a.y n (arcs.getD n.toNat []) num by_ (wait.set n.toNat false) q with
   | none=>none
   | some (.inl (num2,by2,wait2,q2))=>dO arcs a k num2 by2 wait2 q2
   | some (.inr by2)=>(fC by2 a.x 1000 a.y).map fun l => .inr (l++[a.lit])
  else none
def lowerF (fuel:Nat) (arcs:List (List Arc)) (num:List Int) (a:Arc):Option (List Int ⊕ List Int) :=
 dO arcs a fuel (num.set a.x.toNat (gi num a.y+a.c)) ((List.replicate num.length default).set a.x.toNat a) (List.replicate num.length false) [a.x]
structure Org where
 leaf:Stp
 first:Nat
 chain:List (Nat × Int)
structure Sol where
 e:Eng
 num:List Int
 arcs:List (List Arc)
 act:List Bool
 org:List Org
 unt:List Int
 acty:List Int
 rst:Int
def Sol.new (f:Form):Sol :=
 ⟨Eng.new f.bools.toNat,(List.range f.ints.toNat).map Int.ofNat,List.replicate f.ints.toNat [],List.replicate f.bools.toNat false,[],List.replicate f.bools.toNat (-1),List.replicate f.bools.toNat 0,100⟩
def w64 (x:Int):Int:=(x+9223372036854775808) % 18446744073709551616-9223372036854775808
def wV:Stp:=⟨0,0,[],0,0,0⟩
def Sol.addF (s:Sol) (cl:List Int) (o:Org):Option Sol :=
 if s.e.cls.length<LIM∧s.org.length<LIM then some { s with e:={ s.e with cls:=s.e.cls++[cl] },org:=s.org++[o] } else none
def dS:Nat→Sol→Nat→Option (Sol × Nat)
 | 0,_,_=>none
 | n+1,s,v =>
  if v<s.unt.length∧v<s.e.rsn.length then
   if 0≤s.unt.getD v 0 then some (s,(s.unt.getD v 0).toNat)
   else
    let r:=(s.e.rsn.getD v 0).toNat
    if 0≤s.e.rsn.getD v 0∧r<s.e.cls.length∧(s.e.cl r).length<LIM then
     if (s.e.cl r).length=1 then some ({ s with unt:=s.unt.set v r },r)
     else
      match (s.e.cl r).foldlM (fun (p:Sol × List Int × List (Nat × Int)) lit =>
       if litB p.1.unt.length lit=true then
        if vr lit=v then some (p.1,p.2.1++[lit],p.2.2)
        else (dS n p.1 (vr lit)).map fun q=>(q.1,p.2.1,p.2.2++[(q.2, -lit)])
       else none) (s,[],[]) with
      | none=>none
      | some (s1,own,ch)=>(s1.addF own ⟨wV,r,ch⟩).map fun s2=>({ s2 with unt:=s2.unt.set v s1.e.cls.length },s1.e.cls.length)
    else none
  else none
def unitsF (fuel:Nat) (s:Sol) (lits:List Int) (ch:List (Nat × Int)):Option (Sol × List (Nat × Int)) :=
 lits.foldlM (fun p lit=>if litB p.1.unt.length lit=true∧p.2.length<LIM then (dS fuel p.1 (vr lit)).map fun q=>(q.1,p.2++[(q.2, -lit)]) else none) (s,ch)
def needStep (org:List Org) (need:List Bool) (c:Nat):List Bool :=
 match org[c]? with
 | none=>need
 | some o=>if need.getD c false=true∧o.leaf.kind=0 then o.chain.foldl (fun n l=>n.set l.1 true) (need.set o.first true) else need
def needF (org:List Org) (last:Nat):List Bool:=((List.range (last+1)).reverse).foldl (needStep org) ((List.replicate (last+1) false).set last true)
def gW:List (Nat × Int)→List Nat→Nat→Nat→List Stp→List Nat × List Stp
 | [],place,_,_,out=>(place,out)
 | (k,l)::r,place,c,cur,out =>
  let s:Stp:=if l<0 then ⟨3,0,[],cur,place.getD k 0,vr l⟩ else ⟨3,0,[],place.getD k 0,cur,vr l⟩
  gW r (place.set c out.length) c out.length (out++[s])
def outStep (org:List Org) (need:List Bool) (p:List Nat × List Stp) (c:Nat):List Nat × List Stp :=
 match org[c]? with
 | none=>p
 | some o =>
  if need.getD c false=true then
   if o.leaf.kind≠0 then (p.1.set c p.2.length,p.2++[o.leaf])
   else gW o.chain (p.1.set c (p.1.getD o.first 0)) c (p.1.getD o.first 0) p.2
  else p
def stepsF (org:List Org) (last:Nat):List Stp:=((List.range (last+1)).foldl (outStep org (needF org last)) (List.replicate (last+1) 0,[])).2
def orgOk (n:Nat) (o:Org):Bool:=decide (o.first<n) && o.chain.all (fun l=>decide (l.1<n∧l.2≠0 ∧ -1048576≤l.2∧l.2≤1048576)) && decide (o.chain.length<LIM)
def refuteF (fuel:Nat) (s:Sol) (conflict:Nat):Option (List Stp) :=
 if conflict<s.e.cls.length then
  match unitsF fuel s (s.e.cl conflict) [] with
  | none=>none
  | some (s1,ch)=>match s1.addF [] ⟨wV,conflict,ch⟩ with
   | none=>none
   | some s2 =>
    if s2.org.length=s2.e.cls.length∧(∀c,c<s2.org.length→∀o,s2.org[c]? = some o→orgOk s2.org.length o=true)∧(stepsF s2.org s1.e.cls.length).length<LIM then some (stepsF s2.org s1.e.cls.length) else none
 else none
def constrainF (fuel:Nat) (f:Form) (s:Sol) (lit:Int):Option (Sol × Int) :=
 match bound f.atoms lit with
 | none=>some (s, -1)
 | some d =>
  let a:Arc:=⟨lit,d.x,d.y,d.c⟩
  if tR s.num.length a=true∧s.arcs.length=s.num.length∧mF (gi s.num d.x)=true∧mF (gi s.num d.y)=true∧(s.arcs.getD d.y.toNat []).length<LIM∧litB s.act.length lit=true then
   let put (num:List Int):Sol:={ s with num:=num,arcs:=s.arcs.set d.y.toNat (s.arcs.getD d.y.toNat []++[a]),act:=s.act.set (vr lit) true }
   if d.c<gi s.num d.x-gi s.num d.y then
    match lowerF fuel s.arcs s.num a with
    | none=>none
    | some (.inl num)=>some (put num, -1)
    | some (.inr lits)=>(s.addF (lits.map fun l => -l) ⟨⟨2,0,lits,0,0,0⟩,0,[]⟩).map fun s2=>(s2,(s.e.cls.length:Int))
   else some (put s.num, -1)
  else none
def cV (f:Form):Nat→Sol→Option (Sol × Int)
 | 0,_=>none
 | n+1,s =>
  match s.e.tr[s.e.hd]? with
  | none=>some (s, -1)
  | some lit =>
   if litB s.e.val.length lit=true then
    match dL (-lit) { s.e with hd:=s.e.hd+1 } (s.e.wat (-lit)) [] with
    | none=>none
    | some (e2,c) =>
     if 0≤c then some ({ s with e:=e2 },c)
     else match constrainF n f { s with e:=e2 } lit with
      | none=>none
      | some (s3,c2)=>if 0≤c2 then some (s3,c2) else cV f n s3
   else none
def lU (val acty:List Int):Int :=
 (List.range val.length).foldl (fun b v=>if val.getD v 0=0∧(b<0∨acty.getD b.toNat 0<acty.getD v 0) then (v:Int) else b) (-1)
def decideF (f:Form) (s:Sol):Option (Option Sol) :=
 let b:=lU s.e.val s.acty
 if b<0 then some none
 else if s.e.tr.length<LIM∧s.e.st.length<LIM∧s.acty.length=s.e.val.length then
  let go (l:Int):Sol:={ s with e:=({ s.e with st:=s.e.st++[s.e.tr.length] }:Eng).assign l (-1) }
  match f.atoms[b.toNat]? with
  | none=>some (some (go (-(b+1))))
  | some d =>
   if 0≤d.x∧d.x<s.num.length∧0≤d.y∧d.y<s.num.length∧mF (gi s.num d.x)=true∧mF (gi s.num d.y)=true then
    some (some (go (if gi s.num d.x-gi s.num d.y≤d.c then b+1 else -(b+1))))
   else none
 else none
def undoF (f:Form) (s:Sol) (lit:Int):Sol :=
 { s with
  e:={ s.e with val:=s.e.val.set (vr lit) 0,rsn:=s.e.rsn.set (vr lit) (-1) }
  act:=if s.act.getD (vr lit) false=true then s.act.set (vr lit) false else s.act
  arcs:=if s.act.getD (vr lit) false=true then (match bound f.atoms lit with
   | some d=>s.arcs.set d.y.toNat (s.arcs.getD d.y.toNat []).dropLast
   | none=>s.arcs) else s.arcs }
def undoOk (f:Form) (s:Sol) (lit:Int):Bool :=
 litB s.e.val.length lit && decide (s.act.length=s.e.val.length) && (!s.act.getD (vr lit) false || match bound f.atoms lit with
  | some d=>decide (0≤d.y∧d.y<s.arcs.length∧0<(s.arcs.getD d.y.toNat []).length)
  | none=>true)
def backF (f:Form) (s:Sol) (level:Nat):Option Sol :=
 if s.e.st.length≤level then some s
 else
  let first:=s.e.st.getD level 0
  if first≤s.e.tr.length then
   ((s.e.tr.drop first).reverse.foldlM (fun s lit=>if undoOk f s lit=true then some (undoF f s lit) else none) s).map fun s1 =>
    { s1 with e:={ s1.e with tr:=s1.e.tr.take first,st:=s1.e.st.take level,hd:=first } }
  else none
structure Lrn where
 acty:List Int
 seen:List Bool
 clause:List Int
 fixed:List Int
 opn:Int
def collectLit (lvl:List Int) (cur:Nat) (p:Lrn) (lit:Int):Lrn :=
 if p.seen.getD (vr lit) false=true then p
 else
  let p1:={ p with seen:=p.seen.set (vr lit) true,acty:=p.acty.set (vr lit) (w64 (p.acty.getD (vr lit) 0+1)) }
  if lvl.getD (vr lit) 0=cur then { p1 with opn:=p1.opn+1 }
  else if lvl.getD (vr lit) 0=0 then { p1 with fixed:=p1.fixed++[lit] }
  else { p1 with clause:=p1.clause++[lit] }
def wU (lvl:List Int) (cur:Nat) (p:Lrn) (cl:List Int):Lrn:=cl.foldl (collectLit lvl cur) p
def bH (e:Eng):Nat→Lrn→List (Nat × Int)→Option (Nat × Lrn × List (Nat × Int))
 | 0,_,_=>none
 | k+1,p,ch =>
  let t:=e.tr.getD k 0
  if litB e.val.length t=true then
   if p.seen.getD (vr t) false=true then
    if p.opn=1 then some (k,p,ch)
    else
     let r:=e.rsn.getD (vr t) 0
     if 0≤r∧r<e.cls.length∧(e.cl r.toNat).all (litB e.val.length)=true∧ch.length<LIM∧1<p.opn∧p.opn<LIM∧(e.cl r.toNat).length<LIM then
      bH e k (wU e.lvl e.st.length { p with opn:=p.opn-1 } (e.cl r.toNat)) (ch++[(r.toNat,t)])
     else none
   else bH e k p ch
  else none
def topF (lvl:List Int):List Nat→List Int→Int→List Int × Int
 | [],cl,level=>(cl,level)
 | i::r,cl,level =>
  let l:=lvl.getD (vr (cl.getD i 0)) 0
  if level<l then topF lvl r (swp cl 1 i) l else topF lvl r cl level
def installF (f:Form) (s:Sol) (clause:List Int) (o:Org):Option Sol :=
 if clause.all (litB s.e.val.length)=true∧0<clause.length∧clause.length<LIM then
  let p:=topF s.e.lvl (List.range' 1 (clause.length-1)) clause 0
  if 0≤p.2 then
   match s.addF p.1 o with
   | none=>none
   | some s1 =>
    if 1<clause.length∧¬((s1.e.wat (p.1.getD 0 0)).length<LIM∧(s1.e.wat (p.1.getD 1 0)).length<LIM∧p.1.getD 0 0≠p.1.getD 1 0) then none
    else
     let s2:=if 1<clause.length then { s1 with e:=s1.e.attach s.e.cls.length } else s1
     match backF f s2 p.2.toNat with
     | none=>none
     | some s3=>if s3.e.tr.length<LIM then some { s3 with e:=s3.e.assign (p.1.getD 0 0) (s.e.cls.length:Int) } else none
  else none
 else none
def learnF (fuel:Nat) (f:Form) (s:Sol) (conflict:Nat):Option Sol :=
 if conflict<s.e.cls.length∧(s.e.cl conflict).all (litB s.e.val.length)=true∧(s.e.cl conflict).length<LIM∧s.acty.length=s.e.val.length∧s.e.lvl.length=s.e.val.length∧s.e.rsn.length=s.e.val.length∧s.unt.length=s.e.val.length then
  match bH s.e s.e.tr.length (wU s.e.lvl s.e.st.length ⟨s.acty,List.replicate s.e.val.length false,[],[],0⟩ (s.e.cl conflict)) [] with
  | none=>none
  | some (k,p,ch) =>
   match unitsF fuel { s with acty:=p.acty } p.fixed ch with
   | none=>none
   | some (s1,ch2)=>installF f s1 (-(s.e.tr.getD k 0)::p.clause) ⟨wV,conflict,ch2⟩
 else none
def gR (f:Form):Nat→Int→Sol→Option (Sol × Int)
 | 0,_,_=>none
 | n+1,conf,s =>
  match cV f n s with
  | none=>none
  | some (s1,c) =>
   if c<0 then
    match decideF f s1 with
    | none=>none
    | some none=>some (s1, -1)
    | some (some s2)=>gR f n conf s2
   else if s1.e.st.length=0 then some (s1,c)
   else match learnF n f s1 c.toNat with
    | none=>none
    | some s2 =>
     if 0≤conf∧conf<LIM∧0≤s2.rst∧s2.rst<LIM then
      let conf1:=conf+1
      let s3:=if conf1 % 256=0 then { s2 with acty:=s2.acty.map fun x=>x.tdiv 2 } else s2
      if s3.rst≤conf1 then
       match backF f { s3 with rst:=s3.rst+conf1 / 2 } 0 with
       | none=>none
       | some s4=>gR f n conf1 s4
      else gR f n conf1 s3
     else none
def solveF (fuel:Nat) (gB:List Int→Option (List Int)) (f:Form):Option (List Int ⊕ List Stp) :=
 let s0:=Sol.new f
 match dG gB 0 f.clauses s0.e with
 | none=>none
 | some (e1,c) =>
  let s1:Sol:={ s0 with e:=e1,org:=e1.inp.map fun i=>⟨⟨1,(i:Nat),[],0,0,0⟩,0,[]⟩ }
  if c<0 then
   match gR f fuel 0 s1 with
   | none=>none
   | some (s2,c2)=>if c2<0 then some (.inl s2.e.val) else (refuteF fuel s2 c2.toNat).map .inr
  else (refuteF fuel s1 c.toNat).map .inr
end Go.Proofs.Yticieifacalocaa
