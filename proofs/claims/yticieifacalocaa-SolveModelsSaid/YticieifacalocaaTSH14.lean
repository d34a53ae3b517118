/- SolInv -/
import Derived.Test.YticieifacalocaaTSH13
namespace Go.Proofs.Yticieifacalocaa
theorem wD {B:Nat} {l:Int}:litB B l=true↔l≠0∧vr l<B:=by simp [litB]
theorem vr_neg (l:Int):vr (-l)=vr l:=by simp [vr]
theorem bL {B:Nat} {l:Int}:litB B (-l)=litB B l:=by
 unfold litB;rw [vr_neg]
 refine vT.2 ⟨fun h=>⟨by omega,h.2⟩,fun h=>⟨by omega,h.2⟩⟩
theorem rC {a b:Int} (ha:a≠0) (hb:b≠0):vr a=vr b↔a=b∨a = -b:=by unfold vr;omega
theorem tv_neg {val:List Int} {l:Int} (h:l≠0):tv val (-l) = -tv val l:=by
 unfold tv;rw [vr_neg]
 by_cases h1:l<0
 ·rw [if_pos h1,if_neg (by omega)];omega
 ·rw [if_neg h1,if_pos (by omega)]
structure TrI (B:Nat) (e:Eng):Prop where
 vl:e.val.length=B
 rl:e.rsn.length=B
 ll:e.lvl.length=B
 v3:∀i,e.val.getD i 0=0∨e.val.getD i 0=1∨e.val.getD i 0 = -1
 lits:∀l∈e.tr,litB B l=true
 nd:(e.tr.map vr).Nodup
 tr:∀l,litB B l=true→(tv e.val l=1↔l∈e.tr)
section
variable {B:Nat} {e:Eng}
theorem TrI.three (h:TrI B e) (l:Int):tv e.val l=0∨tv e.val l=1∨tv e.val l = -1:=by
 unfold tv
 have:=h.v3 (vr l)
 split<;>omega
theorem TrI.false_ (h:TrI B e) {l:Int} (hl:litB B l=true):tv e.val l = -1 ↔ -l∈e.tr:=by
 rw [←h.tr (-l) (by rw [bL];exact hl),tv_neg (wD.1 hl).1];omega
theorem TrI.none_ (h:TrI B e) {l:Int} (hl:litB B l=true):tv e.val l=0↔l∉e.tr ∧ -l∉e.tr:=by
 rw [←h.tr l hl,←h.false_ hl]
 have:=h.three l
 omega
theorem TrI.not_both (h:TrI B e) {l:Int} (h1:l∈e.tr) (h2 : -l∈e.tr):False:=by
 have hl:=h.lits l h1
 have:=(h.tr l hl).2 h1
 have:=(h.false_ hl).2 h2
 omega
theorem TrI.len (h:TrI B e):e.tr.length≤B:=by
 have:=bX (N:=B) h.nd (fun x hx=>by
  obtain ⟨l,hl,rfl⟩:=List.mem_map.1 hx
  exact (wD.1 (h.lits l hl)).2)
 simpa using this
theorem TrI.new (B:Nat):TrI B (Eng.new B):=by
 have hg:∀i,(List.replicate B (0:Int)).getD i 0=0:=fun i=>by
  rw [List.getD_eq_getElem?_getD,List.getElem?_replicate];split<;>rfl
 refine ⟨by simp [Eng.new],by simp [Eng.new],by simp [Eng.new],fun i => .inl (hg i),by simp [Eng.new],by simp [Eng.new],fun l _ => ?_⟩
 unfold tv Eng.new
 simp only [hg]
 split<;>simp
theorem aE {l:List Int} (h:(l.map vr).Nodup):l.Nodup:=by
 unfold List.Nodup at h ⊢
 rw [yO] at h
 exact h.imp fun h e=>h (by rw [e])
theorem TrI.assign (h:TrI B e) {l r:Int} (hl:litB B l=true) (h0:tv e.val l=0):TrI B (e.assign l r):=by
 obtain ⟨l0,l1⟩:=wD.1 hl
 obtain ⟨n1,n2⟩:=(h.none_ hl).1 h0
 have hvl:=h.vl
 have hg:∀i,(e.val.set (vr l) (if l<0 then -1 else 1)).getD i 0=if i=vr l then (if l<0 then -1 else 1) else e.val.getD i 0:=fun i=>wG _ _ _ _ _ (by omega)
 refine ⟨by simp [Eng.assign,h.vl],by simp [Eng.assign,h.rl],by simp [Eng.assign,h.ll],fun i => ?_,fun x hx => ?_,?_,fun x hx => ?_⟩
 ·show (e.val.set _ _).getD i 0=0∨_
  simp only [Eng.assign]
  rw [hg]
  split
  ·split<;>simp
  ·exact h.v3 i
 ·rcases zK.1 hx with hx|hx
  ·exact h.lits x hx
  ·rw [zH] at hx;subst hx;exact hl
 ·show ((e.tr++[l]).map vr).Nodup
  rw [List.map_append,qG]
  refine ⟨h.nd,by simp,fun a ha b hb e2 => ?_⟩
  simp only [qC,xU,zH] at hb
  subst hb
  obtain ⟨x,hx,e3⟩:=List.mem_map.1 ha
  have hx0:=(wD.1 (h.lits x hx)).1
  rcases (rC hx0 l0).1 (e3.trans e2) with e4|e4
  ·subst e4;exact n1 hx
  ·subst e4;exact n2 hx
 ·show tv (e.val.set _ _) x=1↔x∈e.tr++[l]
  rw [zK,zH]
  have hx0:=(wD.1 hx).1
  unfold tv
  rw [hg]
  by_cases e1:vr x=vr l
  ·rw [if_pos e1]
   rcases (rC hx0 l0).1 e1 with e2|e2
   ·subst e2
    constructor
    ·intro _;exact .inr rfl
    ·intro _;by_cases h3:x<0
     ·rw [if_pos h3,if_pos h3];rfl
     ·rw [if_neg h3,if_neg h3]
   ·subst e2
    constructor
    ·intro h4
     exfalso
     by_cases h3:l<0
     ·rw [if_neg (by omega),if_pos h3] at h4;omega
     ·rw [if_pos (by omega),if_neg h3] at h4;omega
    ·rintro (h4|h4)
     ·exact absurd h4 n2
     ·omega
  ·rw [if_neg e1]
   have:=h.tr x hx
   unfold tv at this
   rw [this]
   constructor
   ·exact .inl
   ·rintro (h4|h4)
    ·exact h4
    ·exact absurd (by rw [h4]) e1
theorem TrI.cut (h:TrI B e) {k:Nat} {val rsn lvl:List Int} (hv:val.length=B) (hr:rsn.length=B) (hlv:lvl.length=B)
  (hset:∀i,val.getD i 0=if i∈(e.tr.drop k).map vr then 0 else e.val.getD i 0) {e2:Eng} (e1:e2.val=val) (e3:e2.rsn=rsn) (e4:e2.lvl=lvl) (e5:e2.tr=e.tr.take k):TrI B e2:=by
 subst e1 e3 e4
 have hsp:e.tr=e.tr.take k++e.tr.drop k:=(xR k e.tr).symm
 refine ⟨hv,hr,hlv,fun i => ?_,fun l hl => ?_,?_,fun l hl => ?_⟩
 ·rw [hset];split
  ·exact .inl rfl
  ·exact h.v3 i
 ·rw [e5] at hl;exact h.lits l (zN hl)
 ·rw [e5]
  have:=h.nd
  rw [hsp,List.map_append,qG] at this
  exact this.1
 ·rw [e5]
  have hl0:=(wD.1 hl).1
  have h1:=h.tr l hl
  unfold tv at h1 ⊢
  rw [hset]
  have hnd:=h.nd
  rw [hsp,List.map_append,qG] at hnd
  by_cases hm:vr l∈(e.tr.drop k).map vr
  ·rw [if_pos hm]
   constructor
   ·intro h2;exfalso;split at h2<;>omega
   ·intro h2
    exfalso
    exact hnd.2.2 (vr l) (List.mem_map.2 ⟨l,h2,rfl⟩) (vr l) hm rfl
  ·rw [if_neg hm,h1]
   constructor
   ·intro h2
    rw [hsp] at h2
    rcases zK.1 h2 with h2|h2
    ·exact h2
    ·exact absurd (List.mem_map.2 ⟨l,h2,rfl⟩) hm
   ·exact zN
end
theorem eR {l:List Int} {i j:Nat} (hi:i<l.length) (hj:j<l.length):(swp l i j).Perm l:=by
 have h:=Array.swap_perm (xs:=l.toArray) (i:=i) (j:=j) (by simpa using hi) (by simpa using hj)
 have h2:=Array.perm_iff_toList_perm.1 h
 simp only [Array.toList_swap] at h2
 unfold swp
 rw [List.getD_eq_getElem?_getD,List.getD_eq_getElem?_getD,List.getElem?_eq_getElem hi,List.getElem?_eq_getElem hj]
 simpa using h2
theorem cH (l:List Int) (i j:Nat):(swp l i j).length=l.length:=by simp [swp]
theorem swp_get {l:List Int} {i j:Nat} (hi:i<l.length) (hj:j<l.length) (k:Nat):(swp l i j).getD k 0=if k=j then l.getD i 0 else if k=i then l.getD j 0 else l.getD k 0:=by
 unfold swp
 rw [wG _ _ _ _ _ (by simpa using hj),wG _ _ _ _ _ hi]
def Fine (B:Nat) (l:List Int):Prop:=(∀x∈l,litB B x=true)∧(l.map vr).Nodup
theorem Fine.perm {B:Nat} {l m:List Int} (h:Fine B l) (hp:m.Perm l):Fine B m :=
 ⟨fun x hx=>h.1 x (hp.mem_iff.1 hx),(hp.map vr).nodup_iff.2 h.2⟩
theorem getD_mem {l:List Int} {i:Nat} (h:i<l.length):l.getD i 0∈l:=by
 rw [List.getD_eq_getElem?_getD,List.getElem?_eq_getElem h];exact xG h
theorem Fine.ne {B:Nat} {l:List Int} (h:Fine B l) {i j:Nat} (hi:i<l.length) (hj:j<l.length) (hij:i≠j):l.getD i 0≠l.getD j 0:=by
 have h1:=aE h.2
 intro e
 rw [List.getD_eq_getElem?_getD,List.getD_eq_getElem?_getD,List.getElem?_eq_getElem hi,List.getElem?_eq_getElem hj] at e
 simp only [kE] at e
 unfold List.Nodup at h1
 rw [qM] at h1
 rcases Nat.lt_or_gt_of_ne hij with hlt|hgt
 ·exact h1 i j hi hj hlt e
 ·exact h1 j i hj hi hgt e.symm
def ClI (B:Nat) (e:Eng):Prop:=∀c,c<e.cls.length→Fine B (e.cl c)
def W3c (e:Eng) (h:Nat) (w o:Int):Prop := -w∈e.tr.take h→o∈e.tr∧∀s∈e.st, -w∈e.tr.take s→o∈e.tr.take s
def Eng.g0 (e:Eng) (c:Nat):Int:=(e.cl c).getD 0 0
def Eng.g1 (e:Eng) (c:Nat):Int:=(e.cl c).getD 1 0
structure WtI (e:Eng) (wat:Int→List Nat) (h:Nat):Prop where
 w1:∀l c,c∈wat l→c<e.cls.length∧2≤(e.cl c).length∧(l=e.g0 c∨l=e.g1 c)∧c∈wat (e.g0 c)∧c∈wat (e.g1 c)
 w3:∀c,c∈wat (e.g0 c)→W3c e h (e.g0 c) (e.g1 c)∧W3c e h (e.g1 c) (e.g0 c)
 w4:∀l,(wat l).Nodup
theorem Eng.cl_set {e:Eng} {c:Nat} (hc:c<e.cls.length) (l:List Int) (d:Nat):(e.cls.set c l).getD d []=if d=c then l else e.cl d:=wG _ _ _ _ _ hc
theorem Eng.cl_swap {e:Eng} {c i j:Nat} (hc:c<e.cls.length) (d:Nat):(e.swap c i j).cl d=if d=c then swp (e.cl c) i j else e.cl d:=by
 show (e.cls.set c _).getD d []=_
 rw [Eng.cl_set hc]
structure Grow (e e2:Eng):Prop where
 n:e2.cls.length=e.cls.length
 perm:∀c,(e2.cl c).Perm (e.cl c)
 inp:e2.inp=e.inp
 st:e2.st=e.st
 hd:e2.hd=e.hd
 tr:∃m,e2.tr=e.tr++m
 old:∀l∈e.tr,e2.rsn.getD (vr l) 0=e.rsn.getD (vr l) 0∧e2.lvl.getD (vr l) 0=e.lvl.getD (vr l) 0
 new:∀p l,e.tr.length≤p→e2.tr[p]? = some l→e2.lvl.getD (vr l) 0=e.st.length∧∃c:Nat,e2.rsn.getD (vr l) 0=c∧c<e.cls.length∧l∈e.cl c∧∀x∈e.cl c,x≠l → -x∈e2.tr.take p
theorem Grow.refl (e:Eng):Grow e e :=
 ⟨rfl,fun _=>uC _,rfl,rfl,rfl,⟨[],by simp⟩,fun _ _=>⟨rfl,rfl⟩,fun p l hp h=>by have:=(zG.1 h).1;omega⟩
theorem Grow.sub {e e2:Eng} (h:Grow e e2) {l:Int} (hl:l∈e.tr):l∈e2.tr:=by
 obtain ⟨m,hm⟩:=h.tr;rw [hm];exact qP _ hl
theorem Grow.take {e e2:Eng} (h:Grow e e2) {p:Nat} (hp:p≤e.tr.length):e2.tr.take p=e.tr.take p:=by
 obtain ⟨m,hm⟩:=h.tr;rw [hm,zY hp]
theorem Grow.len {e e2:Eng} (h:Grow e e2):e.tr.length≤e2.tr.length:=by
 obtain ⟨m,hm⟩:=h.tr;rw [hm,zJ];omega
theorem Grow.mem {e e2:Eng} (h:Grow e e2) {c:Nat} {x:Int}:x∈e2.cl c↔x∈e.cl c:=(h.perm c).mem_iff
theorem Grow.trans {a b c:Eng} (h:Grow a b) (k:Grow b c):Grow a c:=by
 refine ⟨k.n.trans h.n,fun d=>(k.perm d).trans (h.perm d),k.inp.trans h.inp,k.st.trans h.st,k.hd.trans h.hd,?_,fun l hl => ?_,fun p l hp hl => ?_⟩
 ·obtain ⟨m,hm⟩:=h.tr
  obtain ⟨m2,hm2⟩:=k.tr
  exact ⟨m++m2,by rw [hm2,hm,qB]⟩
 ·obtain ⟨h1,h2⟩:=h.old l hl
  obtain ⟨h3,h4⟩:=k.old l (h.sub hl)
  exact ⟨h3.trans h1,h4.trans h2⟩
 ·by_cases hb:p<b.tr.length
  ·obtain ⟨m,hm⟩:=k.tr
   have hl2:b.tr[p]? = some l:=by rw [hm,zO hb] at hl;exact hl
   obtain ⟨h1,d,h2,h3,h4,h5⟩:=h.new p l hp hl2
   obtain ⟨k1,k2⟩:=k.old l (List.mem_of_getElem? hl2)
   exact ⟨k2.trans h1,d,k1.trans h2,h3,h4,fun x hx hne=>by rw [k.take (by omega)];exact h5 x hx hne⟩
  ·obtain ⟨h1,d,h2,h3,h4,h5⟩:=k.new p l (by omega) hl
   refine ⟨by rw [h1,h.st],d,h2,by rw [←h.n];exact h3,h.mem.1 h4,fun x hx hne=>h5 x (h.mem.2 hx) hne⟩
theorem fF {e:Eng} {c i j:Nat} (hc:c<e.cls.length) (hi:i<(e.cl c).length) (hj:j<(e.cl c).length):Grow e (e.swap c i j):=by
 refine ⟨by simp [Eng.swap],fun d => ?_,rfl,rfl,rfl,⟨[],by simp [Eng.swap]⟩,fun _ _=>⟨rfl,rfl⟩,fun p l hp h=>by have:=(zG.1 h).1;exact absurd this (by show ¬p<e.tr.length;omega)⟩
 rw [Eng.cl_swap hc]
 split
 ·rename_i e1;subst e1;exact eR hi hj
 ·exact uC _
theorem iV {e e2:Eng} {w:Int→List Nat} (h:Grow e e2):Grow e { e2 with wat:=w }:=⟨h.n,h.perm,h.inp,h.st,h.hd,h.tr,h.old,h.new⟩
theorem cY {B:Nat} {e:Eng} (h:TrI B e) {l:Int} {c:Nat} (hl:litB B l=true) (h0:tv e.val l=0) (hc:c<e.cls.length) (hm:l∈e.cl c) (hf:∀x∈e.cl c,x≠l → -x∈e.tr):Grow e (e.assign l c):=by
 obtain ⟨l0,l1⟩:=wD.1 hl
 have hr:=h.rl
 have hlv:=h.ll
 obtain ⟨n1,n2⟩:=(h.none_ hl).1 h0
 refine ⟨rfl,fun _=>uC _,rfl,rfl,rfl,⟨[l],rfl⟩,fun x hx => ?_,fun p x hp hx => ?_⟩
 ·have hne:vr x≠vr l:=fun e1=>by
   rcases (rC (wD.1 (h.lits x hx)).1 l0).1 e1 with e2|e2
   ·subst e2;exact n1 hx
   ·subst e2;exact n2 hx
  constructor
  ·show (e.rsn.set _ _).getD _ 0=_
   rw [wG _ _ _ _ _ (by omega),if_neg hne]
  ·show (e.lvl.set _ _).getD _ 0=_
   rw [wG _ _ _ _ _ (by omega),if_neg hne]
 ·have hx':(e.tr++[l])[p]? = some x:=hx
  have hp2:=(zG.1 hx').1
  have hpe:p=e.tr.length:=by simp at hp2;omega
  subst hpe
  rw [zL (Nat.le_refl _)] at hx'
  simp at hx'
  subst hx'
  refine ⟨?_,c,?_,hc,hm,fun x hx1 hne => ?_⟩
  ·show (e.lvl.set _ _).getD _ 0=_
   rw [wG _ _ _ _ _ (by omega),if_pos rfl]
  ·show (e.rsn.set _ _).getD _ 0=_
   rw [wG _ _ _ _ _ (by omega),if_pos rfl]
  ·show -x∈(e.tr++[l]).take e.tr.length
   rw [xH]
   exact hf x hx1 hne
theorem Grow.cli {B:Nat} {e e2:Eng} (h:Grow e e2) (hc:ClI B e):ClI B e2:=fun c hlt=>(hc c (by rw [←h.n];exact hlt)).perm (h.perm c)
theorem W3c.grow {e e2:Eng} {h:Nat} {w o:Int} (hw:W3c e h w o) (hg:Grow e e2) (hh:h≤e.tr.length) (hs:∀s∈e.st,s≤e.tr.length):W3c e2 h w o:=by
 intro hm
 rw [hg.take hh] at hm
 obtain ⟨h1,h2⟩:=hw hm
 refine ⟨hg.sub h1,fun s hs1 hm2 => ?_⟩
 rw [hg.st] at hs1
 rw [hg.take (hs s hs1)] at hm2 ⊢
 exact h2 s hs1 hm2
section
variable {B h:Nat} {e:Eng} {lit:Int}
theorem wat_congr {e:Eng} {wat wat2:Int→List Nat} {h:Nat} (hw:WtI e wat h) (he:∀l,wat2 l=wat l):WtI e wat2 h:=by
 have:wat2=wat:=funext he
 rw [this];exact hw
theorem wT (m:Int→List Nat) (l:Int) (x:List Nat) (k:Int):upd m l x k=if k=l then x else m k:=rfl
theorem WtI.swap01 {wat:Int→List Nat} (hw:WtI e wat h) {c:Nat} (hc:c<e.cls.length) (h2:2≤(e.cl c).length):WtI (e.swap c 0 1) wat h:=by
 have g0:∀d,(e.swap c 0 1).g0 d=if d=c then e.g1 c else e.g0 d:=fun d=>by
  unfold Eng.g0;rw [Eng.cl_swap hc]
  split
  ·rw [swp_get (by omega) (by omega)];simp [Eng.g1]
  ·rfl
 have g1:∀d,(e.swap c 0 1).g1 d=if d=c then e.g0 c else e.g1 d:=fun d=>by
  unfold Eng.g1;rw [Eng.cl_swap hc]
  split
  ·rw [swp_get (by omega) (by omega)];simp [Eng.g0]
  ·rfl
 refine ⟨fun l d hd => ?_,fun d hd => ?_,hw.w4⟩
 ·obtain ⟨h1,h3,h4,h5,h6⟩:=hw.w1 l d hd
  rw [g0,g1,Eng.cl_swap hc]
  refine ⟨by simpa [Eng.swap] using h1,?_,?_,?_,?_⟩
  ·split
   ·rw [cH];exact h2
   ·exact h3
  ·split
   ·rename_i e1;subst e1;exact h4.symm
   ·exact h4
  ·split
   ·rename_i e1;subst e1;exact h6
   ·exact h5
  ·split
   ·rename_i e1;subst e1;exact h5
   ·exact h6
 ·rw [g0] at hd
  rw [g0,g1]
  by_cases e1:d=c
  ·subst e1
   simp only [uR] at hd ⊢
   have:=hw.w3 d (hw.w1 _ d hd).2.2.2.1
   exact ⟨this.2,this.1⟩
  ·simp only [if_neg e1] at hd ⊢
   exact hw.w3 d hd
theorem WtI.moved {kept rest:List Nat} {c i:Nat} (ht:TrI B e) (hcl:ClI B e) (hneg : -lit∈e.tr) (hw:WtI e (upd e.wat lit (kept++c::rest)) h) (h1:e.g1 c=lit)
  (hi2:2≤i) (hil:i<(e.cl c).length) (hnf:0≤tv e.val ((e.cl c).getD i 0)) :
  (e.cl c).getD i 0≠lit∧c∉e.wat ((e.cl c).getD i 0)∧WtI (e.moved c i) (upd (e.moved c i).wat lit (kept++rest)) h ∧
   ∀d,d∈upd e.wat lit (kept++c::rest) (e.g0 d)→d∈upd (e.moved c i).wat lit (kept++rest) ((e.moved c i).g0 d):=by
 obtain ⟨hc,hlen,hor,hw0,hw1⟩:=hw.w1 lit c (by rw [wT,if_pos rfl];simp)
 have hf:=hcl c hc
 have hx1:(e.cl c).getD i 0≠lit:=by rw [←h1];exact hf.ne hil (by omega) (by omega)
 have hx0:(e.cl c).getD i 0≠e.g0 c:=hf.ne hil (by omega) (by omega)
 have h01:e.g0 c≠lit:=by rw [←h1];exact hf.ne (by omega) (by omega) (by omega)
 have hxl:litB B ((e.cl c).getD i 0)=true:=hf.1 _ (getD_mem hil)
 have hxw:c∉e.wat ((e.cl c).getD i 0):=by
  intro hm
  have:=(hw.w1 _ c (by rw [wT,if_neg hx1];exact hm)).2.2.1
  rcases this with h|h
  ·exact hx0 h
  ·rw [h1] at h;exact hx1 h
 refine ⟨hx1,hxw,?_⟩
 generalize hx:(e.cl c).getD i 0=x at *
 have clm:∀d,(e.moved c i).cl d=if d=c then swp (e.cl c) 1 i else e.cl d:=fun d=>Eng.cl_swap hc d
 have g0:∀d,(e.moved c i).g0 d=e.g0 d:=fun d=>by
  unfold Eng.g0;rw [clm]
  split
  ·rename_i e1;subst e1;rw [swp_get (by omega) hil,if_neg (by omega),if_neg (by omega)]
  ·rfl
 have g1:∀d,(e.moved c i).g1 d=if d=c then x else e.g1 d:=fun d=>by
  unfold Eng.g1;rw [clm]
  split
  ·rw [swp_get (by omega) hil,if_neg (by omega),if_pos rfl,hx]
  ·rfl
 have hnd:(kept++c::rest).Nodup:=by have:=hw.w4 lit;rw [wT,if_pos rfl] at this;exact this
 have hck:c∉kept++rest:=by
  rw [qG,yU] at hnd
  rw [zK,jG]
  exact ⟨fun hm=>hnd.2.2 c hm c (by simp) rfl,hnd.2.1.1⟩
 have wt:∀l,upd (e.moved c i).wat lit (kept++rest) l=if l=lit then kept++rest else if l=x then e.wat x++[c] else e.wat l:=fun l=>by
  rw [wT]
  split
  ·rfl
  ·show upd e.wat ((e.cl c).getD i 0) _ l=_
   rw [hx,wT]
   rfl
 have mem:∀l d,d≠c→(d∈upd (e.moved c i).wat lit (kept++rest) l↔d∈upd e.wat lit (kept++c::rest) l):=fun l d hd=>by
  rw [wt,wT]
  split
  ·simp [hd]
  ·split
   ·rename_i e1;subst e1;simp [hd]
   ·exact jQ
 have memc:∀l,c∈upd (e.moved c i).wat lit (kept++rest) l↔l=e.g0 c∨l=x:=fun l=>by
  rw [wt]
  constructor
  ·intro hm
   split at hm
   ·exact absurd hm hck
   ·rename_i n1
    split at hm
    ·rename_i e1;exact .inr e1
    ·have:=(hw.w1 l c (by rw [wT,if_neg n1];exact hm)).2.2.1
     rw [h1] at this
     rcases this with h|h
     ·exact .inl h
     ·exact absurd h n1
  ·rintro (e1|e1)
   ·subst e1
    rw [if_neg h01,if_neg (fun e2=>hx0 e2.symm)]
    rw [wT,if_neg h01] at hw0
    exact hw0
   ·subst e1
    rw [if_neg hx1,if_pos rfl];simp
 refine ⟨⟨fun l d hd => ?_,fun d hd => ?_,fun l => ?_⟩,fun d hd => ?_⟩
 rotate_left 3
 ·rw [g0]
  by_cases e1:d=c
  ·subst e1;rw [memc];exact .inl rfl
  ·rw [mem _ d e1];exact hd
 ·rw [clm,g0,g1]
  by_cases e1:d=c
  ·subst e1
   rw [memc] at hd
   simp only [uR,memc]
   refine ⟨by simpa [Eng.moved,Eng.watch,Eng.swap] using hc,by rw [cH];exact hlen,hd, .inl trivial, .inr trivial⟩
  ·rw [mem l d e1] at hd
   simp only [if_neg e1,mem _ d e1]
   obtain ⟨a1,a2,a3,a4,a5⟩:=hw.w1 l d hd
   exact ⟨by simpa [Eng.moved,Eng.watch,Eng.swap] using a1,a2,a3,a4,a5⟩
 ·rw [g0] at hd
  rw [g0,g1]
  by_cases e1:d=c
  ·subst e1
   simp only [uR]
   have w3:=(hw.w3 d hw0).1
   rw [h1] at w3
   constructor
   ·intro hm
    exact absurd (w3 hm).1 (fun h3=>ht.not_both h3 hneg)
   ·intro hm
    have hm2 : -x∈e.tr:=zN (show -x∈e.tr.take h from hm)
    rw [←ht.false_ hxl] at hm2
    omega
  ·rw [mem _ d e1] at hd
   simp only [if_neg e1]
   exact hw.w3 d hd
 ·rw [wt]
  split
  ·rw [qG,yU] at hnd
   rw [qG]
   exact ⟨hnd.1,hnd.2.1.2,fun a ha b hb=>hnd.2.2 a ha b (by simp [hb])⟩
  ·rename_i n1
   have hn:=hw.w4 l
   rw [wT,if_neg n1] at hn
   split
   ·rename_i e1;subst e1
    rw [qG]
    refine ⟨hn,by simp,fun a ha b hb e2 => ?_⟩
    simp only [zH] at hb
    subst hb e2
    exact hxw ha
   ·exact hn
theorem cX {val cl:List Int} {i j:Nat} (h:openAt val cl i=some j):i≤j∧j<cl.length∧0≤tv val (cl.getD j 0):=by
 unfold openAt at h
 have h1:=List.find?_some h
 have h2:=List.mem_of_find?_eq_some h
 rw [uU] at h2
 obtain ⟨k,hk,rfl⟩:=h2
 exact ⟨by omega,by omega,by simpa using h1⟩
theorem fU {val cl:List Int} {i:Nat} (h:openAt val cl i=none):∀j,i≤j→j<cl.length→tv val (cl.getD j 0)<0:=by
 intro j h1 h2
 unfold openAt at h
 rw [List.find?_eq_none] at h
 have:=h j (by rw [uU];exact ⟨j-i,by omega,by omega⟩)
 simpa using this
theorem mem_get {l:List Int} {x:Int} (h:x∈l):∃j,j<l.length∧l.getD j 0=x:=by
 obtain ⟨j,hj,e⟩:=qL h
 exact ⟨j,hj,by rw [List.getD_eq_getElem?_getD,List.getElem?_eq_getElem hj];exact e⟩
theorem nS {wat:Int→List Nat} (hw:WtI e wat h) (l:Int):(wat l).length≤e.cls.length:=bX (hw.w4 l) fun c hc=>(hw.w1 l c hc).1
structure FalsR (B h:Nat) (e:Eng) (lit:Int) (wv:Int→List Nat) (e2:Eng) (r:Int):Prop where
 tr:TrI B e2
 gr:Grow e e2
 att:∀d,d∈wv (e.g0 d)→d∈e2.wat (e2.g0 d)
 ok:(r = -1∧WtI e2 e2.wat (h+1))∨(∃c:Nat,r=c∧c<e.cls.length∧(∀x∈e.cl c, -x∈e2.tr)∧lit∈e.cl c∧WtI e2 e2.wat h)
theorem falsF_ok (hB:B<LIM) (hl:litB B lit=true):∀(list kept:List Nat) (e:Eng),TrI B e→ClI B e→e.tr[h]? = some (-lit)→(∀s∈e.st,s≤h)→e.cls.length<LIM →
  WtI e (upd e.wat lit (kept++list)) h→(∀c∈kept,(e.g0 c=lit→e.g1 c∈e.tr)∧(e.g1 c=lit→e.g0 c∈e.tr)) →
  ∃e2 r,gR lit e list kept=some (e2,r)∧FalsR B h e lit (upd e.wat lit (kept++list)) e2 r:=by
 intro list
 induction list with
 | nil =>
  intro kept e ht hcl hh hst hlim hw hk
  refine ⟨{ e with wat:=upd e.wat lit kept }, -1,rfl,⟨ht.vl,ht.rl,ht.ll,ht.v3,ht.lits,ht.nd,ht.tr⟩,iV (Grow.refl e),fun d hd=>by rw [yV] at hd;exact hd, .inl ⟨rfl,?_⟩⟩
  rw [yV] at hw
  have hlt:=(zG.1 hh).1
  have htk:e.tr.take (h+1)=e.tr.take h++[-lit]:=by rw [xI,hh];rfl
  have hpos:∀s∈e.st, -lit∉e.tr.take s:=by
   intro s hs hm
   have h1:=hst s hs
   have hnd:=aE ht.nd
   have h2 : -lit∈e.tr.take h:=zN (by rw [yY,yG h1];exact hm : -lit∈(e.tr.take h).take s)
   have hnd2:(e.tr.take (h+1)).Nodup:=hnd.sublist (kN _ _)
   rw [htk,qG] at hnd2
   exact hnd2.2.2 _ h2 _ (by simp) rfl
  refine ⟨hw.w1,fun c hc => ?_,hw.w4⟩
  obtain ⟨a1,a2⟩:=hw.w3 c hc
  obtain ⟨b1,b2,b3,b4,b5⟩:=hw.w1 _ c hc
  have hkc:∀w o,(w=e.g0 c∧o=e.g1 c∨w=e.g1 c∧o=e.g0 c)→W3c e h w o→W3c { e with wat:=upd e.wat lit kept } (h+1) w o:=by
   intro w o hwo hw3 hm
   have hm : -w∈e.tr.take (h+1):=hm
   rw [htk] at hm
   rcases zK.1 hm with hm|hm
   ·exact hw3 hm
   ·rw [zH] at hm
    have hwl:w=lit:=by omega
    subst hwl
    refine ⟨?_,fun s hs hm2=>absurd hm2 (hpos s hs)⟩
    have hck:c∈kept:=by
     rcases hwo with ⟨e1,_⟩|⟨e1,_⟩
     ·rw [←e1,wT,if_pos rfl] at b4;exact b4
     ·rw [←e1,wT,if_pos rfl] at b5;exact b5
    rcases hwo with ⟨e1,e2⟩|⟨e1,e2⟩
    ·rw [e2];exact (hk c hck).1 e1.symm
    ·rw [e2];exact (hk c hck).2 e1.symm
  exact ⟨hkc _ _ (.inl ⟨rfl,rfl⟩) a1,hkc _ _ (.inr ⟨rfl,rfl⟩) a2⟩
 | cons c rest ih =>
  intro kept e ht hcl hh hst hlim hw hk
  have hlt:=(zG.1 hh).1
  obtain ⟨hc,hlen,hor,hw0,hw1⟩:=hw.w1 lit c (by rw [wT,if_pos rfl];simp)
  have hf:=hcl c hc
  have hok:e.clOk c=true:=by
   unfold Eng.clOk
   rw [ht.vl]
   simp only [xE,qI,qH]
   exact ⟨⟨hc,hlen⟩,hf.1⟩
  have hneg : -lit∈e.tr:=List.mem_of_getElem? hh
  obtain ⟨e1,he1,hg1,hgr,ht1,hcl1,hw1',hk1,htr1,hst1,hat1⟩:∃e1:Eng,e1=(if (e.cl c).getD 0 0=lit then e.swap c 0 1 else e)∧e1.g1 c=lit∧Grow e e1∧TrI B e1∧ClI B e1∧WtI e1 (upd e1.wat lit (kept++c::rest)) h ∧
    (∀c∈kept,(e1.g0 c=lit→e1.g1 c∈e1.tr)∧(e1.g1 c=lit→e1.g0 c∈e1.tr))∧e1.tr=e.tr∧e1.st=e.st∧(∀d,d∈upd e.wat lit (kept++c::rest) (e.g0 d)→d∈upd e1.wat lit (kept++c::rest) (e1.g0 d)):=by
   by_cases h0:(e.cl c).getD 0 0=lit
   ·refine ⟨_,rfl,?_,?_,?_,?_,?_,?_,?_,?_,?_⟩<;>rw [if_pos h0]
    ·unfold Eng.g1;rw [Eng.cl_swap hc,if_pos rfl,swp_get (by omega) (by omega),if_pos rfl];exact h0
    ·exact fF hc (by omega) (by omega)
    ·exact ⟨ht.vl,ht.rl,ht.ll,ht.v3,ht.lits,ht.nd,ht.tr⟩
    ·exact (fF hc (by omega) (by omega)).cli hcl
    ·exact hw.swap01 hc hlen
    ·intro d hd
     have hdc:d≠c:=fun e2=>by
      subst e2
      have hnd:=hw.w4 lit
      rw [wT,if_pos rfl,qG] at hnd
      exact hnd.2.2 d hd d (by simp) rfl
     unfold Eng.g0 Eng.g1
     rw [Eng.cl_swap hc,if_neg hdc]
     exact hk d hd
    ·rfl
    ·rfl
    ·intro d hd
     by_cases hdc:d=c
     ·subst hdc
      have:(e.swap d 0 1).g0 d=e.g1 d:=by unfold Eng.g0 Eng.g1;rw [Eng.cl_swap hc,if_pos rfl,swp_get (by omega) (by omega)];simp
      rw [this]
      exact hw1
     ·have:(e.swap c 0 1).g0 d=e.g0 d:=by unfold Eng.g0;rw [Eng.cl_swap hc,if_neg hdc]
      rw [this]
      exact hd
   ·refine ⟨_,rfl,?_,?_,?_,?_,?_,?_,?_,?_,?_⟩<;>(try rw [if_neg h0])
    ·rcases hor with h|h
     ·exact absurd h.symm h0
     ·exact h.symm
    ·exact Grow.refl e
    ·exact ht
    ·exact hcl
    ·exact hw
    ·exact hk
    ·exact fun d hd=>hd
  have hfalse:gR lit e (c::rest) kept =
    (if tv e1.val ((e1.cl c).getD 0 0)≤0 then
     match openAt e1.val (e1.cl c) 2 with
     | some i=>if (e1.cl c).getD i 0≠lit∧(e1.wat ((e1.cl c).getD i 0)).length<LIM then gR lit (e1.moved c i) rest kept else none
     | none=>if tv e1.val ((e1.cl c).getD 0 0)=0 then (if e1.tr.length<LIM then gR lit (e1.assign ((e1.cl c).getD 0 0) c) rest (kept++[c]) else none) else some ({ e1 with wat:=upd e1.wat lit (kept++[c]++rest) },c)
    else gR lit e1 rest (kept++[c])):=by
   rw [gR,if_pos hok]
   simp only [←he1]
   rfl
  rw [hfalse]
  have hc1:c<e1.cls.length:=by rw [hgr.n];exact hc
  have hlen1:2≤(e1.cl c).length:=by rw [(hgr.perm c).length_eq];exact hlen
  have hf1:=hcl1 c hc1
  have hl0:litB B (e1.g0 c)=true:=hf1.1 _ (getD_mem (by omega))
  have hneg1 : -lit∈e1.tr:=by rw [htr1];exact hneg
  have hlim1:e1.cls.length<LIM:=by rw [hgr.n];exact hlim
  have hvirt:∀{e':Eng},WtI e' (upd e'.wat lit (kept++c::rest)) h→WtI e' (upd e'.wat lit ((kept++[c])++rest)) h:=by
   intro e' h';rw [qB];exact h'
  have back:∀{e' e2:Eng} {r:Int} {wv:Int→List Nat},Grow e1 e'→(∀d,d∈upd e1.wat lit (kept++c::rest) (e1.g0 d)→d∈wv (e'.g0 d))→FalsR B h e' lit wv e2 r→FalsR B h e lit (upd e.wat lit (kept++c::rest)) e2 r:=by
   intro e' e2 r wv hg' hat hr
   have hg3:=hgr.trans hg'
   refine ⟨hr.tr,hg3.trans hr.gr,fun d hd=>hr.att d (hat d (hat1 d hd)),?_⟩
   rcases hr.ok with h|⟨d,h1,h2,h3,h4,h5⟩
   ·exact .inl h
   ·exact .inr ⟨d,h1,by rw [←hg3.n];exact h2,fun x hx=>h3 x (hg3.mem.2 hx),hg3.mem.1 h4,h5⟩
  by_cases hv:tv e1.val ((e1.cl c).getD 0 0)≤0
  ·rw [if_pos hv]
   cases ho:openAt e1.val (e1.cl c) 2 with
   | some i =>
    obtain ⟨i2,il,inf⟩:=cX ho
    obtain ⟨m1,m2,m3,m4⟩:=WtI.moved ht1 hcl1 hneg1 hw1' hg1 i2 il inf
    have hxl:(e1.wat ((e1.cl c).getD i 0)).length<LIM:=by
     have:=nS hw1' ((e1.cl c).getD i 0)
     rw [wT,if_neg m1] at this
     omega
    simp only
    rw [if_pos ⟨m1,hxl⟩]
    have hgm:Grow e1 (e1.moved c i):=iV (fF hc1 (by omega) il)
    obtain ⟨e2,r,q1,q2⟩:=ih kept (e1.moved c i) ⟨ht1.vl,ht1.rl,ht1.ll,ht1.v3,ht1.lits,ht1.nd,ht1.tr⟩ (hgm.cli hcl1) (by show e1.tr[h]? = _;rw [htr1];exact hh) (by show ∀s∈e1.st,_;rw [hst1];exact hst) (by rw [hgm.n];exact hlim1) m3 (fun d hd=>by
     have hdc:d≠c:=fun e2=>by
      subst e2
      have hnd:=hw.w4 lit
      rw [wT,if_pos rfl,qG] at hnd
      exact hnd.2.2 d hd d (by simp) rfl
     have:(e1.moved c i).cl d=e1.cl d:=by
      show (e1.swap c 1 i).cl d=_
      rw [Eng.cl_swap hc1,if_neg hdc]
     unfold Eng.g0 Eng.g1
     rw [this]
     exact hk1 d hd)
    exact ⟨e2,r,q1,back hgm m4 q2⟩
   | none =>
    have hno:=fU ho
    have hrest:∀x∈e1.cl c,x≠e1.g0 c → -x∈e1.tr:=by
     intro x hx hne
     obtain ⟨j,hj,e2⟩:=mem_get hx
     have hxl:=hf1.1 x hx
     match j,hj,e2 with
     | 0,_,e2=>exact absurd e2.symm hne
     | 1,_,e2=>rw [←e2,show (e1.cl c).getD 1 0=lit from hg1];exact hneg1
     | j+2,hj,e2 =>
      have:=hno (j+2) (by omega) hj
      rw [e2] at this
      rw [←ht1.false_ hxl]
      have:=ht1.three x
      omega
    simp only
    by_cases h0:tv e1.val ((e1.cl c).getD 0 0)=0
    ·have htl:e1.tr.length<LIM:=uE ht1.len hB
     rw [if_pos h0,if_pos htl]
     have hga:Grow e1 (e1.assign (e1.g0 c) c):=cY ht1 hl0 h0 hc1 (getD_mem (by omega)) hrest
     have hta:TrI B (e1.assign (e1.g0 c) c):=ht1.assign hl0 h0
     have hlt1:h<e1.tr.length:=by rw [htr1];exact hlt
     have hwa:WtI (e1.assign (e1.g0 c) c) (upd e1.wat lit (kept++c::rest)) h:=by
      refine ⟨hw1'.w1,fun d hd => ?_,hw1'.w4⟩
      obtain ⟨a1,a2⟩:=hw1'.w3 d hd
      have hs:∀s∈e1.st,s≤e1.tr.length:=fun s hs=>by have:=hst s (by rw [←hst1];exact hs);omega
      exact ⟨a1.grow hga (by omega) hs,a2.grow hga (by omega) hs⟩
     obtain ⟨e2,r,q1,q2⟩:=ih (kept++[c]) (e1.assign (e1.g0 c) c) hta (hga.cli hcl1) (by
       show (e1.tr++[_])[h]? = _
       rw [zO hlt1,htr1];exact hh) (by show ∀s∈e1.st,_;rw [hst1];exact hst) (by rw [hga.n];exact hlim1) (hvirt hwa) (fun d hd=>by
      rcases zK.1 hd with hd|hd
      ·exact ⟨fun h=>qP _ ((hk1 d hd).1 h),fun h=>qP _ ((hk1 d hd).2 h)⟩
      ·rw [zH] at hd;subst hd
       refine ⟨fun h => ?_,fun _=>(by show e1.g0 d∈e1.tr++[e1.g0 d];simp)⟩
       exact absurd (show e1.g0 d=e1.g1 d by rw [hg1];exact h) (hf1.ne (by omega) (by omega) (by omega)))
     exact ⟨e2,r,q1,back hga (fun d hd=>by rw [qB];exact hd) q2⟩
    ·rw [if_neg h0]
     refine ⟨_,_,rfl,back (iV (Grow.refl e1)) (e':={ e1 with wat:=upd e1.wat lit (kept++[c]++rest) }) (fun d hd=>hd) ⟨⟨ht1.vl,ht1.rl,ht1.ll,ht1.v3,ht1.lits,ht1.nd,ht1.tr⟩,Grow.refl _,fun d hd=>by rw [qB];exact hd, .inr ⟨c,rfl,hc1,fun x hx => ?_,?_,?_⟩⟩⟩
     ·by_cases hx0:x=e1.g0 c
      ·subst hx0
       show -e1.g0 c∈e1.tr
       rw [←ht1.false_ hl0]
       have:=ht1.three (e1.g0 c)
       have h3:tv e1.val (e1.g0 c)≤0:=hv
       have h4:tv e1.val (e1.g0 c)≠0:=h0
       omega
      ·exact hrest x hx hx0
     ·show lit∈e1.cl c
      rw [←hg1];exact getD_mem (by omega)
     ·exact ⟨(hvirt hw1').w1,(hvirt hw1').w3,(hvirt hw1').w4⟩
  ·rw [if_neg hv]
   obtain ⟨e2,r,q1,q2⟩:=ih (kept++[c]) e1 ht1 hcl1 (by rw [htr1];exact hh) (by rw [hst1];exact hst) hlim1 (hvirt hw1') (fun d hd=>by
    rcases zK.1 hd with hd|hd
    ·exact hk1 d hd
    ·rw [zH] at hd;subst hd
     refine ⟨fun h => ?_,fun _ => ?_⟩
     ·exact absurd (show e1.g0 d=e1.g1 d by rw [hg1];exact h) (hf1.ne (by omega) (by omega) (by omega))
     ·rw [←ht1.tr _ hl0]
      have:=ht1.three (e1.g0 d)
      have h3:¬tv e1.val (e1.g0 d)≤0:=hv
      omega)
   exact ⟨e2,r,q1,back (Grow.refl e1) (fun d hd=>by rw [qB];exact hd) q2⟩
end
end Go.Proofs.Yticieifacalocaa
