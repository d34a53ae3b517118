/- Bell Neg -/
import Derived.Test.YticieifacalocaaTSE4
import Derived.Deep.DeepCutAuto
namespace Go.Proofs.Yticieifacalocaa
def gi (xs:List Int) (v:Int):Int:=xs.getD v.toNat 0
theorem bV {xs:List Int} {v u a:Int} (h0:0≤v) (h1:v<xs.length) (hu:0≤u):gi (xs.set v.toNat a) u=if u=v then a else gi xs u:=by
 unfold gi
 rw [List.getD_eq_getElem?_getD,List.getD_eq_getElem?_getD,yY]
 by_cases e:u=v
 ·subst e;rw [if_pos rfl,if_pos (by omega),if_pos rfl];rfl
 ·rw [if_neg (by omega),if_neg e]
def bX (n:Nat) (M:Int) (l:List Diff):Prop:=∀(k:Nat) (e:Diff),l[k]? = some e→0≤e.x∧e.x<n∧0≤e.y∧e.y<n∧e.x≠e.y ∧ -M≤e.c∧e.c≤M
structure BF (n:Nat) (M:Int) (l:List Diff) (r i:Nat) (xs bs:List Int) (last:Int) (t:Int→Int) (s:Int→Nat) (N:Nat):Prop where
 lx:xs.length=n
 lb:bs.length=n
 par:∀v:Int,0≤v→v<n→(gi bs v = -1∧t v = -1∧s v=0)∨(∃(k:Nat) (e:Diff),gi bs v=k∧l[k]? = some e∧e.x=v∧gi xs e.y+e.c≤gi xs v∧(s v<s e.y→gi xs e.y+e.c<gi xs v)∧0≤t v∧t v-1≤t e.y∧0<s v)
 rel:∀(k:Nat) (e:Diff),l[k]? = some e→gi xs e.y+e.c<gi xs e.x→(r:Int)-1≤t e.y∧(k<i→(r:Int)≤t e.y)
 tr:∀v,t v≤r
 inj:∀u v,0<s u→s u=s v→u=v
 sN:∀v,s v≤N
 last:(last = -1∧∀v,t v≤(r:Int)-1)∨(0≤last∧last<n∧t last=r)
 bd:∀v:Int,0≤v→v<n → -(M * ((r * l.length+i:Nat):Int))≤gi xs v∧gi xs v≤0
def Bell (n:Nat) (M:Int) (l:List Diff) (r i:Nat) (xs bs:List Int) (last:Int):Prop:=∃t s N,BF n M l r i xs bs last t s N
theorem Bell.start (n:Nat) (M:Int) (l:List Diff):Bell n M l 0 0 (List.replicate n 0) (List.replicate n (-1)) (-1):=by
 refine ⟨fun _ => -1,fun _=>0,0,by simp,by simp,fun v h0 h1 => .inl ⟨?_,rfl,rfl⟩,fun k e _ h => ?_,by simp,by simp,by simp, .inl ⟨rfl,by simp⟩,fun v h0 h1 => ?_⟩
 ·unfold gi;rw [List.getD_eq_getElem?_getD,List.getElem?_replicate,if_pos (by omega)];rfl
 ·simp
 ·have:gi (List.replicate n 0) v=0:=by unfold gi;rw [List.getD_eq_getElem?_getD,List.getElem?_replicate,if_pos (by omega)];rfl
  rw [this];simp
theorem Bell.no {n:Nat} {M:Int} {l:List Diff} {r i:Nat} {xs bs:List Int} {last:Int} (h:Bell n M l r i xs bs last) (hM:0≤M) {e:Diff} (he:l[i]? = some e) (hle:gi xs e.x≤gi xs e.y+e.c) :
  Bell n M l r (i+1) xs bs last:=by
 obtain ⟨t,s,N,h⟩:=h
 refine ⟨t,s,N,h.lx,h.lb,h.par,fun k e' hk hlt=>⟨(h.rel k e' hk hlt).1,fun hki => ?_⟩,h.tr,h.inj,h.sN,h.last,fun v h0 h1=>⟨?_,(h.bd v h0 h1).2⟩⟩
 ·by_cases hk':k=i
  ·subst hk';rw [he] at hk;injection hk with hk;subst hk;omega
  ·exact (h.rel k e' hk hlt).2 (by omega)
 ·have:=(h.bd v h0 h1).1
  have h3:M * ((r * l.length+(i+1):Nat):Int)=M * ((r * l.length+i:Nat):Int)+M:=by
   rw [show ((r * l.length+(i+1):Nat):Int)=((r * l.length+i:Nat):Int)+1 by omega,kH,wE]
  omega
theorem Bell.yes {n:Nat} {M:Int} {l:List Diff} {r i:Nat} {xs bs:List Int} {last:Int} (h:Bell n M l r i xs bs last) (hl:bX n M l) {e:Diff} (he:l[i]? = some e) (hlt:gi xs e.y+e.c<gi xs e.x) :
  Bell n M l r (i+1) (xs.set e.x.toNat (gi xs e.y+e.c)) (bs.set e.x.toNat i) e.x:=by
 obtain ⟨t,s,N,h⟩:=h
 obtain ⟨x0,x1,y0,y1,hne,c0,c1⟩:=hl i e he
 have hgx:∀u,0≤u→gi (xs.set e.x.toNat (gi xs e.y+e.c)) u=if u=e.x then gi xs e.y+e.c else gi xs u:=fun u hu=>bV x0 (by rw [h.lx];exact x1) hu
 have hgb:∀u,0≤u→gi (bs.set e.x.toNat i) u=if u=e.x then (i:Int) else gi bs u:=fun u hu=>bV x0 (by rw [h.lb];exact x1) hu
 have hgle:∀u,0≤u→gi (xs.set e.x.toNat (gi xs e.y+e.c)) u≤gi xs u:=by
  intro u hu;rw [hgx u hu];split
  ·rename_i eq;subst eq;omega
  ·omega
 have hrel:=h.rel i e he hlt
 have sX:∀v,(if v=e.x then N+1 else s v)≤N+1:=by intro v;split;omega;have:=h.sN v;omega
 refine ⟨fun v=>if v=e.x then r else t v,fun v=>if v=e.x then N+1 else s v,N+1,by simp [h.lx],by simp [h.lb],fun v v0 v1 => ?_,fun k e2 hk h2 => ?_,fun v => ?_,fun u v hu huv => ?_,sX, .inr ⟨x0,x1,by simp⟩,fun v v0 v1 => ?_⟩
 ·by_cases hv:v=e.x
  ·right
   refine ⟨i,e,by rw [hgb v v0,if_pos hv],he,hv.symm,?_,?_,?_,?_,?_⟩
   ·rw [hgx v v0,if_pos hv,hgx e.y y0,if_neg (wD hne)];omega
   ·intro hs;rw [if_pos hv,if_neg (wD hne)] at hs;have:=h.sN e.y;omega
   ·simp [hv]
   ·rw [if_pos hv,if_neg (wD hne)];exact hrel.1
   ·simp [hv]
  ·rcases h.par v v0 v1 with ⟨p1,p2,p3⟩|⟨k,e2,p1,p2,p3,p4,p5,p6,p7,p8⟩
   ·left;exact ⟨by rw [hgb v v0,if_neg hv];exact p1,by simp [hv,p2],by simp [hv,p3]⟩
   ·right
    obtain ⟨_,_,y20,y21,hne2,_,_⟩:=hl k e2 p2
    refine ⟨k,e2,by rw [hgb v v0,if_neg hv];exact p1,p2,p3,?_,?_,by simp [hv,p6],?_,by simp [hv,p8]⟩
    ·rw [hgx v v0,if_neg hv];have:=hgle e2.y y20;omega
    ·intro hs;rw [hgx v v0,if_neg hv]
     by_cases hy:e2.y=e.x
     ·rw [hgx e2.y y20,if_pos hy];rw [hy] at p4;omega
     ·rw [if_neg hv,if_neg hy] at hs
      have:=p5 hs;have:=hgle e2.y y20;omega
    ·rw [if_neg hv];split
     ·have:=h.tr v;omega
     ·exact p7
 ·obtain ⟨x20,x21,y20,y21,hne2,_,_⟩:=hl k e2 hk
  by_cases hki:k=i
  ·subst hki;rw [he] at hk;injection hk with hk;subst hk
   rw [hgx e.x x0,if_pos rfl,hgx e.y y0,if_neg (wD hne)] at h2;omega
  ·by_cases hy:e2.y=e.x
   ·simp [hy];omega
   ·rw [hgx e2.y y20,if_neg hy] at h2
    have h3:gi xs e2.y+e2.c<gi xs e2.x:=by have:=hgle e2.x x20;omega
    obtain ⟨r1,r2⟩:=h.rel k e2 hk h3
    simp only [if_neg hy]
    exact ⟨r1,fun hk'=>r2 (by omega)⟩
 ·show (if v=e.x then (r:Int) else t v)≤r
  split
  ·omega
  ·exact h.tr v
 ·by_cases h1:u=e.x<;>by_cases h2:v=e.x
  ·rw [h1,h2]
  ·rw [if_pos h1,if_neg h2] at huv;have:=h.sN v;omega
  ·rw [if_neg h1,if_pos h2] at huv;have:=h.sN u;omega
  ·rw [if_neg h1] at hu;rw [if_neg h1,if_neg h2] at huv;exact h.inj u v hu huv
 ·have h3:M * ((r * l.length+(i+1):Nat):Int)=M * ((r * l.length+i:Nat):Int)+M:=by
   rw [show ((r * l.length+(i+1):Nat):Int)=((r * l.length+i:Nat):Int)+1 by omega,kH,wE]
  have b1:=h.bd v v0 v1
  have b2:=h.bd e.y y0 y1
  have b3:=h.bd e.x x0 x1
  rw [hgx v v0]
  split<;>omega
theorem Bell.next {n:Nat} {M:Int} {l:List Diff} {r:Nat} {xs bs:List Int} {last:Int} (h:Bell n M l r l.length xs bs last):Bell n M l (r+1) 0 xs bs (-1):=by
 obtain ⟨t,s,N,h⟩:=h
 refine ⟨t,s,N,h.lx,h.lb,h.par,fun k e hk hlt=>⟨?_,fun h0=>by omega⟩,fun v=>by have:=h.tr v;omega,h.inj,h.sN, .inl ⟨rfl,fun v=>by have:=h.tr v;omega⟩,fun v h0 h1 => ?_⟩
 ·have:=(h.rel k e hk hlt).2 (zG.1 hk).1;omega
 ·have:=h.bd v h0 h1
  rw [show (r+1) * l.length+0=r * l.length+l.length by rw [uY];omega];exact this
theorem Bell.solved {n:Nat} {M:Int} {l:List Diff} {r:Nat} {xs bs:List Int} (h:Bell n M l r l.length xs bs (-1)) {k:Nat} {e:Diff} (hk:l[k]? = some e):gi xs e.x≤gi xs e.y+e.c:=by
 obtain ⟨t,s,N,h⟩:=h
 rcases Int.lt_or_le (gi xs e.y+e.c) (gi xs e.x) with hlt|hge
 ·have h1:=(h.rel k e hk hlt).2 (zG.1 hk).1
  rcases h.last with ⟨_,h2⟩|⟨h2,_⟩
  ·have:=h2 e.y;omega
  ·omega
 ·exact hge
theorem Bell.lens {n:Nat} {M:Int} {l:List Diff} {r i:Nat} {xs bs:List Int} {last:Int} (h:Bell n M l r i xs bs last):xs.length=n∧bs.length=n:=by
 obtain ⟨t,s,N,h⟩:=h;exact ⟨h.lx,h.lb⟩
theorem Bell.bound {n:Nat} {M:Int} {l:List Diff} {r i:Nat} {xs bs:List Int} {last:Int} (h:Bell n M l r i xs bs last):∀v:Int,0≤v→v<n → -(M * ((r * l.length+i:Nat):Int))≤gi xs v∧gi xs v≤0:=by
 obtain ⟨t,s,N,h⟩:=h;exact h.bd
def Way (n:Nat) (l:List Diff) (bs:List Int) (p:Nat→Int):Prop :=
 ∀j,0≤p j∧p j<n∧∃(k:Nat) (e:Diff),gi bs (p j)=k∧l[k]? = some e∧e.x=p j∧e.y=p (j+1)
theorem pigeon (n:Nat) (p:Nat→Int) (h:∀j,j≤n→0≤p j∧p j<n):∃j k,j<k∧k≤n∧p j=p k:=by
 induction n generalizing p with
 | zero=>have:=h 0 (by omega);omega
 | succ n ih =>
  by_cases hx:∃j,j≤n∧p j=p (n+1)
  ·obtain ⟨j,hj,e⟩:=hx;exact ⟨j,n+1,by omega,by omega,e⟩
  ·have hne:∀j,j≤n→p j≠p (n+1):=fun j hj e=>hx ⟨j,hj,e⟩
   have hl:=h (n+1) (by omega)
   obtain ⟨j,k,h1,h2,h3⟩:=ih (fun j=>if p j=n then p (n+1) else p j) (fun j hj=>by
    have h1:=h j (by omega);have h2:=hne j hj
    show 0≤(if p j=n then p (n+1) else p j)∧(if p j=n then p (n+1) else p j)<n
    split<;>omega)
   refine ⟨j,k,h1,by omega,?_⟩
   have hj:=hne j (by omega)
   have hk:=hne k (by omega)
   split at h3<;>split at h3<;>omega
theorem least_of {P:Nat→Prop} {d:Nat} (h0:0<d) (h:P d):∃m,0<m∧m≤d∧P m∧∀k,0<k→k<m→¬P k:=by
 induction d using Nat.strongRecOn with
 | ind d ih =>
  by_cases hx:∃k,0<k∧k<d∧P k
  ·obtain ⟨k,k0,kd,hk⟩:=hx
   obtain ⟨m,m0,m1,m2,m3⟩:=ih k kd k0 hk
   exact ⟨m,m0,by omega,m2,m3⟩
  ·exact ⟨d,h0,by omega,h,fun k k0 kd hk=>hx ⟨k,k0,kd,hk⟩⟩
def itN (f:Int→Int) (a:Int):Nat→Int
 | 0=>a
 | j+1=>f (itN f a j)
def pX (l:List Diff) (bs:List Int) (p:Nat→Int) (a:Nat):Nat→Int
 | 0=>0
 | m+1=>pX l bs p a m+((l[(gi bs (p (a+m))).toNat]?).getD ⟨0,0,0⟩).c
theorem Bell.way {n:Nat} {M:Int} {l:List Diff} {r:Nat} {xs bs:List Int} {last:Int} (h:Bell n M l r l.length xs bs last) (hl:bX n M l) (h0:0≤last) (hr:n≤r+1) :
  ∃p:Nat→Int,p 0=last∧Way n l bs p∧∃d,0<d∧d≤n∧p (n+d)=p n∧(∀m,0<m→m<d→p (n+m)≠p n)∧pX l bs p n d<0:=by
 obtain ⟨t,s,N,h⟩:=h
 have hlast:0≤last∧last<n∧t last=r:=by
  rcases h.last with ⟨h1,_⟩|h1
  ·omega
  ·exact h1
 let nxt:Int→Int:=fun v=>((l[(gi bs v).toNat]?).getD ⟨0,0,0⟩).y
 let p:Nat→Int:=itN nxt last
 have hp:∀j,p (j+1)=nxt (p j):=fun _=>rfl
 have hstep:∀v:Int,0≤v→v<n→gi bs v ≠ -1→0≤nxt v∧nxt v<n∧t v-1≤t (nxt v)∧∃(k:Nat) (e:Diff),gi bs v=k∧l[k]? = some e∧e.x=v∧e.y=nxt v:=by
  intro v v0 v1 hv
  rcases h.par v v0 v1 with ⟨p1,_⟩|⟨k,e,p1,p2,p3,p4,p5,p6,p7,p8⟩
  ·exact absurd p1 hv
  ·have e1:nxt v=e.y:=by show ((l[(gi bs v).toNat]?).getD ⟨0,0,0⟩).y=e.y;rw [p1,Int.toNat_natCast,p2];rfl
   obtain ⟨_,_,y0,y1,_⟩:=hl k e p2
   rw [e1]
   exact ⟨y0,y1,p7,k,e,p1,p2,p3,rfl⟩
 have hgood:∀v:Int,0≤v→v<n→0≤t v→gi bs v ≠ -1:=by
  intro v v0 v1 tv hb
  rcases h.par v v0 v1 with ⟨_,p2,_⟩|⟨k,e,p1,_⟩
  ·omega
  ·omega
 have hch:∀j,j≤n→(0≤p j∧p j<n)∧(r:Int)-j≤t (p j):=by
  intro j
  induction j with
  | zero=>intro _;exact ⟨⟨hlast.1,hlast.2.1⟩,by show (r:Int)-0≤t last;omega⟩
  | succ j ih =>
   intro hj
   obtain ⟨⟨a0,a1⟩,a2⟩:=ih (by omega)
   obtain ⟨b0,b1,b2,_⟩:=hstep (p j) a0 a1 (hgood _ a0 a1 (by omega))
   rw [hp j]
   exact ⟨⟨b0,b1⟩,by omega⟩
 obtain ⟨j,k,hjk,hkn,hpe⟩:=pigeon n p fun j hj=>(hch j hj).1
 have hper:∀m,p (j+m+(k-j))=p (j+m):=by
  intro m
  induction m with
  | zero=>rw [vB,show j+(k-j)=k by omega];exact hpe.symm
  | succ m ih=>rw [show j+(m+1)+(k-j)=j+m+(k-j)+1 by omega,hp,ih,show j+(m+1)=j+m+1 by omega,hp]
 have hall:∀m,(0≤p m∧p m<n)∧gi bs (p m) ≠ -1:=by
  intro m
  induction m using Nat.strongRecOn with
  | ind m ih =>
   by_cases hm:m<n
   ·obtain ⟨a,b⟩:=hch m (by omega)
    exact ⟨a,hgood _ a.1 a.2 (by omega)⟩
   ·have e:p m=p (m-(k-j)):=by
     have:=hper (m-(k-j)-j)
     rw [show j+(m-(k-j)-j)+(k-j)=m by omega,show j+(m-(k-j)-j)=m-(k-j) by omega] at this
     exact this
    rw [e];exact ih _ (by omega)
 have hway:Way n l bs p:=fun m=>by
  obtain ⟨⟨a0,a1⟩,a2⟩:=hall m
  obtain ⟨_,_,_,k,e,q1,q2,q3,q4⟩:=hstep (p m) a0 a1 a2
  exact ⟨a0,a1,k,e,q1,q2,q3,by rw [q4,hp]⟩
 obtain ⟨d,d0,d1,d2,d3⟩:=least_of (P:=fun d=>p (n+d)=p n) (d:=k-j) (by omega) (by
  have:=hper (n-j)
  rwa [show j+(n-j)=n by omega] at this)
 refine ⟨p,rfl,hway,d,d0,by omega,d2,d3,?_⟩
 have hedge:∀m,gi xs (p (m+1))+((l[(gi bs (p m)).toNat]?).getD ⟨0,0,0⟩).c≤gi xs (p m)∧(s (p m)<s (p (m+1))→gi xs (p (m+1))+((l[(gi bs (p m)).toNat]?).getD ⟨0,0,0⟩).c<gi xs (p m))∧0<s (p m)∧p (m+1)≠p m:=by
  intro m
  obtain ⟨⟨a0,a1⟩,a2⟩:=hall m
  rcases h.par (p m) a0 a1 with ⟨p1,_⟩|⟨k,e,p1,p2,p3,p4,p5,p6,p7,p8⟩
  ·exact absurd p1 a2
  ·have e1:p (m+1)=e.y:=by rw [hp];show ((l[(gi bs (p m)).toNat]?).getD ⟨0,0,0⟩).y=e.y;rw [p1,Int.toNat_natCast,p2];rfl
   rw [e1,p1,Int.toNat_natCast,p2]
   obtain ⟨_,_,_,_,hne,_⟩:=hl k e p2
   exact ⟨p4,p5,p8,by rw [←p3];exact wD hne⟩
 have htel:∀m,gi xs (p (n+m))+pX l bs p n m≤gi xs (p n)∧((∃q,q<m∧s (p (n+q))<s (p (n+q+1)))→gi xs (p (n+m))+pX l bs p n m<gi xs (p n)):=by
  intro m
  induction m with
  | zero=>exact ⟨by simp [pX],fun ⟨q,hq,_⟩=>by omega⟩
  | succ m ih =>
   obtain ⟨i1,i2⟩:=ih
   obtain ⟨g1,g2,_,_⟩:=hedge (n+m)
   rw [show n+(m+1)=n+m+1 by omega,pX]
   refine ⟨by omega,fun ⟨q,hq,hs⟩ => ?_⟩
   by_cases hqm:q=m
   ·subst hqm;have:=g2 hs;omega
   ·have:=i2 ⟨q,by omega,hs⟩;omega
 obtain ⟨t1,t2⟩:=htel d
 rw [d2] at t1 t2
 have:∃q,q<d∧s (p (n+q))<s (p (n+q+1)):=by
  refine qB fun hno => ?_
  have hdn:∀q,q≤d→s (p (n+d))≤s (p (n+(d-q))):=by
   intro q
   induction q with
   | zero=>intro _;exact Nat.le_refl _
   | succ q ih =>
    intro hq
    have h1:=ih (by omega)
    have h2:¬s (p (n+(d-(q+1))))<s (p (n+(d-(q+1))+1)):=fun hs=>hno ⟨d-(q+1),by omega,hs⟩
    rw [show n+(d-(q+1))+1=n+(d-q) by omega] at h2
    omega
  have h1:=hdn (d-1) (by omega)
  rw [show n+(d-(d-1))=n+1 by omega,d2] at h1
  have h2:¬s (p (n+0))<s (p (n+0+1)):=fun hs=>hno ⟨0,d0,hs⟩
  simp only [vB] at h2
  obtain ⟨_,_,g3,g4⟩:=hedge n
  exact g4 (h.inj (p (n+1)) (p n) (by omega) (by omega))
 have:=t2 this
 omega
open Go.RowKit
structure NS (w wr:World) (gx gb:Nat) (xs bs:List Int):Prop where
 x:Blk wr gx 3 (dH xs)
 b:Blk wr gb 3 (dH bs)
 ne:gx≠gb
 lx:w.heap.size≤gx
 lb:w.heap.size≤gb
 bl:Below w.heap.size w wr
section
variable {w wr w':World} {gx gb:Nat} {xs bs:List Int}
theorem NS.keep (h:NS w wr gx gb xs bs) (hb:Below wr.heap.size wr w'):NS w w' gx gb xs bs :=
 ⟨h.x.keep hb,h.b.keep hb,h.ne,h.lx,h.lb,h.bl.trans (hb.mono h.bl.size)⟩
theorem NS.setX (h:NS w wr gx gb xs bs) (k:Nat) (a:Int):NS w (wr.setCell ⟨gx,k,none⟩ (.int .i64 a)) gx gb (xs.set k a) bs :=
 ⟨h.x.setI k a,h.b.grown (wJ _ _ _ _) (by have:=h.ne;simp;omega),h.ne,h.lx,h.lb,h.bl.grown (wJ _ _ _ _) h.bl.size fun g e=>by have:=h.lx;injection e with e;omega⟩
theorem NS.setB (h:NS w wr gx gb xs bs) (k:Nat) (a:Int):NS w (wr.setCell ⟨gb,k,none⟩ (.int .i64 a)) gx gb xs (bs.set k a) :=
 ⟨h.x.grown (wJ _ _ _ _) (by have:=h.ne;simp;omega),h.b.setI k a,h.ne,h.lx,h.lb,h.bl.grown (wJ _ _ _ _) h.bl.size fun g e=>by have:=h.lb;injection e with e;omega⟩
theorem NS.two (n:Nat) (a b:List Int):NS w (((w.alloc (.cells (dH a) 3)).alloc (.cells (dH b) 3)).drewN n) w.heap.size (w.heap.size+1) a b:=by
 have h0:=Blk.new w 3 (dH a)
 have h1:=Blk.new (w.alloc (.cells (dH a) 3)) 3 (dH b)
 have hs:(w.alloc (.cells (dH a) 3)).heap.size=w.heap.size+1:=by simp
 rw [hs] at h1
 exact ⟨(h0.alloc _).drewN n,h1.drewN n,by omega,by omega,by omega,bC (((zL _ _).alloc (Nat.le_refl _) _).alloc (by rw [hs];omega) _) n⟩
theorem NS.drewN (h:NS w wr gx gb xs bs) (n:Nat):NS w (wr.drewN n) gx gb xs bs:=⟨h.x.drewN n,h.b.drewN n,h.ne,h.lx,h.lb,bC h.bl n⟩
theorem NS.swap (h:NS w wr gx gb xs bs):NS w wr gb gx bs xs:=⟨h.b,h.x,h.ne.symm,h.lb,h.lx,h.bl⟩
end
def Round (n:Nat) (M:Int) (l:List Diff) (r:Nat) (xs bs:List Int) (la:Int):Prop :=
 (r=0∧Bell n M l 0 0 xs bs (-1))∨∃q,r=q+1∧Bell n M l q l.length xs bs la∧0≤la
theorem Round.go {n:Nat} {M:Int} {l:List Diff} {r:Nat} {xs bs:List Int} {la:Int} (h:Round n M l r xs bs la):Bell n M l r 0 xs bs (-1):=by
 rcases h with ⟨rfl,h⟩|⟨q,rfl,h,_⟩
 ·exact h
 ·exact h.next
def ksN (bs:List Int) (p:Nat→Int) (n m:Nat):List Nat:=(List.range m).map fun i=>(gi bs (p (n+i))).toNat
theorem sO (bs:List Int) (p:Nat→Int) (n m:Nat):ksN bs p n (m+1)=ksN bs p n m++[(gi bs (p (n+m))).toNat]:=by
 unfold ksN;rw [List.range_succ,List.map_append];rfl
theorem ksN_sum (l:List Diff) (bs:List Int) (p:Nat→Int) (n m:Nat):csum ((ksN bs p n m).map fun k=>l.getD k ⟨0,0,0⟩)=pX l bs p n m:=by
 induction m with
 | zero=>rfl
 | succ m ih =>
  rw [sO,List.map_append,pX,←ih]
  unfold csum
  rw [List.map_append,List.sum_append,List.getD_eq_getElem?_getD.symm]
  simp
theorem fD {n d:Nat} {l:List Diff} {bs:List Int} {p:Nat→Int} (hw:Way n l bs p) (d0:0<d) (d2:p (n+d)=p n) (d4:pX l bs p n d<0) :
  (∀k∈ksN bs p n d,k<l.length)∧Cyc ((ksN bs p n d).map fun k=>l.getD k ⟨0,0,0⟩):=by
 have hk:∀i,∃e:Diff,l[(gi bs (p (n+i))).toNat]? = some e∧e.x=p (n+i)∧e.y=p (n+i+1):=by
  intro i
  obtain ⟨_,_,k,e,h1,h2,h3,h4⟩:=hw (n+i)
  exact ⟨e,by rw [h1,Int.toNat_natCast];exact h2,h3,h4⟩
 have hat:∀i,i<d→∃e:Diff,((ksN bs p n d).map fun k=>l.getD k ⟨0,0,0⟩)[i]? = some e∧e.x=p (n+i)∧e.y=p (n+i+1):=by
  intro i hi
  obtain ⟨e,h1,h2,h3⟩:=hk i
  refine ⟨e,?_,h2,h3⟩
  unfold ksN
  rw [List.getElem?_map,List.getElem?_map,uC hi]
  simp [h1]
 have hlen:((ksN bs p n d).map fun k=>l.getD k ⟨0,0,0⟩).length=d:=by simp [ksN]
 refine ⟨fun k hm => ?_,by rw [hlen];exact d0,?_,by rw [ksN_sum];exact d4⟩
 ·unfold ksN at hm
  obtain ⟨i,_,rfl⟩:=List.mem_map.1 hm
  obtain ⟨e,h1,_⟩:=hk i
  exact (zG.1 h1).1
 ·intro i a b hi ha hb
  rw [hlen] at hi hb
  obtain ⟨e,h1,h2,h3⟩:=hat i hi
  rw [h1] at ha;injection ha with ha;subst ha
  rw [h3]
  by_cases hlt:i+1<d
  ·rw [uU hlt] at hb
   obtain ⟨e2,g1,g2,_⟩:=hat (i+1) hlt
   rw [g1] at hb;injection hb with hb;subst hb
   rw [g2,vF]
  ·have:i+1=d:=by omega
   rw [this,Nat.mod_self] at hb
   obtain ⟨e2,g1,g2,_⟩:=hat 0 d0
   rw [g1] at hb;injection hb with hb;subst hb
   rw [g2,vF,this,d2];rfl
def NcRet (w:World) (l:List Diff) (e:Ending) (w':World):Prop :=
 Below w.heap.size w w'∧((e = .returned (.slice none 0 0)∧∃xs:List Int,∀d∈l,gi xs d.x≤gi xs d.y+d.c) ∨
  ∃(v:Value) (ks:List Nat),e = .returned v∧Own w' w.heap.size v (ks.map fun k:Nat=>(k:Int))∧(∀k∈ks,k<l.length)∧Cyc (ks.map fun k=>l.getD k ⟨0,0,0⟩)∧ks.length≤1000)
set_option maxRecDepth 100000 in
set_option maxHeartbeats 2000000 in
theorem ncycle_any (n:Nat) (v:Value) (l:List Diff) (w:World) (M:Int) (hv:Diffs w v l) (hE:bX n M l) (hn:n≤1000) (hl:l.length≤1000) (hM0:0≤M) (hM:M≤1000000) :
  Calls Try.prog 73 #[.int .i64 n,v] w (NcRet w l):=by
 have HV:=Lib.hid hv
 have HE:=Lib.hid hE
 obtain ⟨A,cp,rfl,h1,h2,h3,hr⟩:=hv
 unfold maxLen at h2
 clear h3 hr hE
 have mk:=lQ n (by omega)
 go_enter Try.func73,Try.ntmps73
 go_upto_region 1 with fail
 go_cut [5,6] (fun x b wx=>∃gx gb,x = .slice (some ⟨gx,0,none⟩) n n∧b = .slice (some ⟨gb,0,none⟩) n n∧NS w wx gx gb (List.replicate n 0) (List.replicate n 0))
 case first =>
  go_region
  ·go_wp2_with fail
   go_meet
   exact ⟨_,_,rfl,rfl,NS.two _ _ _⟩
  ·go_wp2_with fail
   go_meet
   exact ⟨_,_,rfl,rfl,(NS.two _ _ _).swap⟩
 case rest =>
  obtain ⟨gx,gb,rfl,rfl,hns⟩:=hcut
  clear mk
  go_wp2_with fail
  go_loopw [21] (fun i wr=>∃k:Nat,k≤n∧i = .int .i64 k∧NS w wr gx gb (List.replicate n 0) (lO 0 n (List.replicate k (-1)))) (fun i _=>n-(intOf i).toNat)
  case atStart=>exact ⟨0,by omega,rfl,hns⟩
  case round =>
   obtain ⟨k,hk,rfl,hs⟩:=hrel
   have HS:=Lib.hid hs
   clear hs hns
   by_cases hlt:k<n
   ·have c1:=HS.out.b.cell k
    have z1:=HS.out.b.frozen k
    have HP:Hid (lO 0 n (List.replicate k (-1)) |>.set k (-1) |> fun x=>x=lO 0 n (List.replicate (k+1) (-1))):=by
     refine Lib.hid ?_
     show (lO 0 n (List.replicate k (-1))).set k (-1)=_
     rw [pA (by simp;omega) (by simp),vZ]
    rw [gO (pad_at hlt (by simp))] at c1
    go_wp2_with fail
    go_roundw
    case rel=>exact ⟨k+1,by omega,by go_num,by have:=HS.out.setB k (-1);rwa [show _=_ from HP.out] at this⟩
    case measure=>simp [intOf];omega
   ·have HS2:Hid (NS w wr gx gb (List.replicate n 0) (List.replicate n (-1))):=by
     have h:=HS.out
     rw [show k=n by omega,nI (by simp)] at h
     exact h
    go_wp2_with fail
    go_loopw [8,9] (fun la ro wr=>∃(r:Nat) (a:Int) (xs bs:List Int),r≤n+1∧ro = .int .i64 r∧la = .int .i64 a∧Round n M l r xs bs a∧NS w wr gx gb xs bs) (fun _ ro _=>n+1-(intOf ro).toNat)
    case atStart=>exact ⟨0, -1,_,_,by omega,rfl,rfl, .inl ⟨rfl,Bell.start n M l⟩,HS2.out⟩
    case round =>
     obtain ⟨r,a,xs,bs,hr,rfl,rfl,hro,hs⟩:=hrel
     have HRO:=Lib.hid hro
     have HS3:=Lib.hid hs
     clear hs hro HS2 HS
     by_cases hrn:r≤n
     ·go_wp2_with fail
      go_loopw [8,35] (fun la i wr=>∃(j:Nat) (a:Int) (xs bs:List Int),j≤l.length∧i = .int .i64 j∧la = .int .i64 a ∧ -1≤a∧Bell n M l r j xs bs a∧NS w wr gx gb xs bs) (fun _ i _=>l.length-(intOf i).toNat)
      case atStart=>exact ⟨0, -1,_,_,by omega,rfl,rfl,by omega,HRO.out.go,HS3.out⟩
      case round =>
       obtain ⟨j,a,xs,bs,hj,rfl,rfl,ha1,hbe,hs⟩:=hrel
       have HBE:=Lib.hid hbe
       have HS4:=Lib.hid hs
       clear hs hbe
       by_cases hjl:j<l.length
       ·obtain ⟨d,hd⟩:∃d,l[j]? = some d:=⟨_,List.getElem?_eq_getElem hjl⟩
        have HD:=Lib.hid hd
        obtain ⟨A',c',hv', -, -, -,hrd⟩:=HV.out.keep HS4.out.bl
        injection hv' with e1 e2 e3
        subst e1 e3
        obtain ⟨b1,o1,rfl,hb1,hx1,hy1,hz1⟩:=hrd.diff hd
        obtain ⟨x0,x1,y0,y1,hne,c0,c1⟩:=HE.out j d hd
        obtain ⟨X,hX⟩:∃X:Nat,d.x=X:=⟨d.x.toNat,by omega⟩
        obtain ⟨Y,hY⟩:∃Y:Nat,d.y=Y:=⟨d.y.toNat,by omega⟩
        obtain ⟨lx,lb⟩:=HBE.out.lens
        obtain ⟨p,hp⟩:∃p,xs[X]? = some p:=⟨_,List.getElem?_eq_getElem (by omega)⟩
        obtain ⟨q,hq⟩:∃q,xs[Y]? = some q:=⟨_,List.getElem?_eq_getElem (by omega)⟩
        obtain ⟨t,ht⟩:∃t,bs[X]? = some t:=⟨_,List.getElem?_eq_getElem (by omega)⟩
        have HGX:Hid (gi xs d.x=p):=by
         refine Lib.hid ?_
         unfold gi;rw [hX,Int.toNat_natCast,List.getD_eq_getElem?_getD,hp];rfl
        have HGY:Hid (gi xs d.y=q):=by
         refine Lib.hid ?_
         unfold gi;rw [hY,Int.toNat_natCast,List.getD_eq_getElem?_getD,hq];rfl
        have HQ:Hid (-2000000000000≤q∧q≤0):=by
         refine Lib.hid ?_
         have h:=HBE.out.bound d.y y0 y1
         rw [HGY.out] at h
         have h3:r * l.length≤1000 * 1000:=vQ (by omega) hl
         have h4:M * ((r * l.length+j:Nat):Int)≤1000000 * 1001000:=jL hM (by omega) (by omega) (by omega)
         omega
        have hq1:=HQ.out.1
        have hq2:=HQ.out.2
        have HX:=Lib.hid hX
        have HY:=Lib.hid hY
        rw [hX] at hx1
        rw [hY] at hy1
        have X1:X<n:=by omega
        have Y1:Y<n:=by omega
        clear hX hY lx lb hd hrd x0 x1 y0 y1 hne
        have sc:=qS (q+d.c) (by omega)
        have B1:=Lib.hid (Blk.new wr 50 #[.int .i64 X, .int .i64 Y, .int .i64 d.c])
        have HS5:Hid (NS w (wr.alloc (.cells #[.int .i64 X, .int .i64 Y, .int .i64 d.c] 50)) gx gb xs bs):=HS4.out.keep ((zL _ _).alloc (Nat.le_refl _) _)
        by_cases hgt:q+d.c<p
        ·have dg:(q+d.c<p)=True:=by simp [hgt]
         go_upto_region 15 with fail
         generalize wr.alloc (.cells #[.int .i64 X, .int .i64 Y, .int .i64 d.c] 50)=W at *
         have r0:=B1.out.cell 0
         have r1:=B1.out.cell 1
         have r2:=B1.out.cell 2
         have e1:=HS5.out.x.cell X
         have e2:=HS5.out.x.cell Y
         rw [gO hp] at e1
         rw [gO hq] at e2
         simp only [zA,zB,zC] at r0 r1 r2
         have HP:=Lib.hid hp
         have HT:=Lib.hid ht
         clear hp hq ht
         go_quiet (fail)
         go_wp2_with fail
         have z1:=HS5.out.x.frozen X
         have HBY:Hid (Bell n M l r (j+1) (xs.set X (q+d.c)) (bs.set X j) X):=by
          have h:=HBE.out.yes HE.out HD.out (by rw [HGX.out,HGY.out];exact hgt)
          rw [HGY.out,HX.out,Int.toNat_natCast] at h
          exact h
         have HLT:Hid (gx<wr.heap.size):=HS4.out.x.lt
         go_region
         have HS6:=Lib.hid ((HS5.out.drewN (nq+1)).setX X (q+d.c))
         have B2:=Lib.hid ((B1.out.drewN (nq+1)).grown (wJ _ gx X (.int .i64 (q+d.c))) (by have:=HLT.out;simp;omega))
         clear r0 r1 r2 e1 e2 z1
         generalize (W.drewN (nq+1)).setCell ⟨gx,X,none⟩ (.int .i64 (q+d.c))=W2 at *
         have r0:=B2.out.cell 0
         simp only [zA,zB] at r0
         have e1:=HS6.out.b.cell X
         have z1:=HS6.out.b.frozen X
         rw [gO HT.out] at e1
         have HLB:Hid (gb<wr.heap.size):=HS4.out.b.lt
         have B3:=(B2.out.grown (wJ _ gb X (.int .i64 j)) (by have:=HLB.out;simp;omega)).cell 0
         simp only [zA,zB] at B3
         go_wp2_with fail
         go_roundw
         case rel=>exact ⟨j+1,X,_,_,by omega,by go_num,rfl,by omega,HBY.out,HS6.out.setB X j⟩
         case measure=>simp [intOf];omega
        ·have dg:(q+d.c<p)=False:=by simp [hgt]
         have HBN:Hid (Bell n M l r (j+1) xs bs a):=HBE.out.no hM0 HD.out (by rw [HGX.out,HGY.out];omega)
         go_upto_region 15 with fail
         generalize wr.alloc (.cells #[.int .i64 X, .int .i64 Y, .int .i64 d.c] 50)=W at *
         have r0:=B1.out.cell 0
         have r1:=B1.out.cell 1
         have r2:=B1.out.cell 2
         have e1:=HS5.out.x.cell X
         have e2:=HS5.out.x.cell Y
         rw [gO hp] at e1
         rw [gO hq] at e2
         simp only [zA,zB,zC] at r0 r1 r2
         clear hp hq ht
         go_quiet (fail)
         go_wp2_with fail
         go_roundw
         case rel=>exact ⟨j+1,a,xs,bs,by omega,by go_num,rfl,ha1,HBN.out,HS5.out.drewN _⟩
         case measure=>simp [intOf];omega
       ·have HBN:Hid (Bell n M l r l.length xs bs a):=by
         have h:=HBE.out
         rw [show j=l.length by omega] at h
         exact h
        by_cases hz:0≤a
        ·go_wp2_with fail
         exact ⟨⟨r+1,a,xs,bs,by omega,by go_num,rfl, .inr ⟨r,rfl,HBN.out,hz⟩,HS4.out⟩,by simp [intOf];omega⟩
        ·have HBZ:Hid (Bell n M l r l.length xs bs (-1)):=by
          have h:=HBN.out
          rw [show a = -1 by omega] at h
          exact h
         go_wp2_with fail
         go_ret
         refine ⟨HS4.out.bl, .inl ⟨rfl,xs,fun d hd => ?_⟩⟩
         obtain ⟨k,hk⟩:=qI hd
         exact HBZ.out.solved hk
     ·have HLA:Hid (Bell n M l n l.length xs bs a∧0≤a):=by
       refine Lib.hid ?_
       rcases HRO.out with ⟨h,_⟩|⟨q,h1,h2,h3⟩
       ·omega
       ·rw [show q=n by omega] at h2;exact ⟨h2,h3⟩
      obtain ⟨p,hp0,hway,d,d0,d1,d2,d3,d4⟩:=HLA.out.1.way HE.out HLA.out.2 (by omega)
      have HW:=Lib.hid hway
      have HD2:=Lib.hid d2
      have HD3:=Lib.hid d3
      have HD4:=Lib.hid d4
      obtain ⟨hl1,hl2⟩:=HLA.out.1.lens
      have HLB:=Lib.hid hl2
      clear hway d2 d3 d4 hl1 hl2
      subst hp0
      go_wp2_with fail
      go_loopw [8,12] (fun la i wr'=>∃k:Nat,k≤n∧i = .int .i64 k∧la = .int .i64 (p k)∧wr'=wr) (fun _ i _=>n-(intOf i).toNat)
      case atStart=>exact ⟨0,by omega,rfl,rfl,rfl⟩
      case round =>
       obtain ⟨k,hk,rfl,rfl,rfl⟩:=hrel
       by_cases hkn:k<n
       ·obtain ⟨w0,w1,kk,e,w2,w3,w4,w5⟩:=HW.out k
        obtain ⟨P,hP⟩:∃P:Nat,p k=P:=⟨(p k).toNat,by omega⟩
        have HY:=Lib.hid w5
        have hbP:bs[P]? = some (kk:Int):=by
         unfold gi at w2
         rw [hP,Int.toNat_natCast,List.getD_eq_getElem?_getD] at w2
         have:P<bs.length:=by rw [HLB.out];omega
         rw [List.getElem?_eq_getElem this] at w2 ⊢
         exact congrArg some w2
        have e1:=HS3.out.b.cell P
        rw [gO hbP] at e1
        have hkl:kk<l.length:=(zG.1 w3).1
        obtain ⟨A',c',hv', -, -, -,hrd⟩:=HV.out.keep HS3.out.bl
        injection hv' with e1 e2 e3
        subst e1 e3
        obtain ⟨b1,o1,rfl,hb1,hx1,hy1,hz1⟩:=hrd.diff w3
        have P1:P<n:=by omega
        rw [hP]
        clear hbP w2 w3 w4 w5 w0 w1 hP hrd hx1 hz1
        go_wp2_with fail
        go_roundw
        case rel=>exact ⟨k+1,by omega,by go_num,by rw [HY.out],trivial⟩
        case measure=>simp [intOf];omega
       ·have hkn':k=n:=by omega
        subst hkn'
        obtain ⟨wo,hwo⟩:∃wo:World,wo=wr:=⟨_,rfl⟩
        subst hwo
        obtain ⟨iI,hiI,hzI0,hzI1,hzI2⟩:=qC gI
        go_wp2_with fail
        go_loopw [13,14] (fun o v wr=>∃m:Nat,m<d∧v = .int .i64 (p (k+m))∧Own wr wo.heap.size o ((ksN bs p k m).map fun k:Nat=>(k:Int))∧Below wo.heap.size wo wr) (fun o _ _=>d-(match o with | .slice _ n _=>n|_=>0))
        case atStart=>exact ⟨0,d0,rfl,⟨zY _ _ _ _,by simp [ksN]⟩,zL _ _⟩
        case round =>
         obtain ⟨m,hm,rfl,how,hbw⟩:=hrel
         have hsz:=hbw.size
         have HO:=Lib.hid how
         have HB:=Lib.hid hbw
         obtain ⟨Ao,co,ho, -, -, -⟩:=wK how.1
         subst ho
         have HSQ:=Lib.hid (HS3.out.keep hbw)
         obtain ⟨w0,w1,kk,e,w2,w3,w4,w5⟩:=HW.out (k+m)
         obtain ⟨P,hP⟩:∃P:Nat,p (k+m)=P:=⟨(p (k+m)).toNat,by omega⟩
         have HY:=Lib.hid w5
         have HKS:Hid (ksN bs p k (m+1)=ksN bs p k m++[kk]):=by
          refine Lib.hid ?_
          rw [sO,w2,Int.toNat_natCast]
         have HKM:Hid ((ksN bs p k (m+1)).map (fun k:Nat=>(k:Int))=(ksN bs p k m).map (fun k:Nat=>(k:Int))++[(kk:Int)]):=by
          refine Lib.hid ?_
          rw [HKS.out,List.map_append];rfl
         have hlen:((ksN bs p k m).map fun k:Nat=>(k:Int)).length=m:=by simp [ksN]
         generalize (ksN bs p k m).map (fun k:Nat=>(k:Int))=ys at *
         subst hlen
         have hbP:bs[P]? = some (kk:Int):=by
          unfold gi at w2
          rw [hP,Int.toNat_natCast,List.getD_eq_getElem?_getD] at w2
          have:P<bs.length:=by rw [HLB.out];omega
          rw [List.getElem?_eq_getElem this] at w2 ⊢
          exact congrArg some w2
         have e1:=HSQ.out.b.cell P
         rw [gO hbP] at e1
         have hkl:kk<l.length:=(zG.1 w3).1
         have HHE:=Lib.hid w3
         have HBP:=Lib.hid hbP
         have P1:P<k:=by omega
         rw [hP]
         have HPP:=Lib.hid hP
         clear hbP w2 w3 w4 w5 w0 w1 hP how hbw
         go_wp2_with (at_builtin;refine zV _ rfl _ _ 33 rfl wo.heap.size 3 iI (.int .i64 0) 1 8 Try.underlying33 hiI hzI0 hzI1 hzI2 rfl (by decide) _ _ _ rfl (HO.out.1.alloc _) ⟨wr.heap.size,0,none⟩ 1 1 [.int .i64 kk] rfl rfl ?a1 ?a2 ?a3 ?a4 ?a5 ?_)
         case a1=>exact gD wr _ _
         case a2=>intro u hu;simp at hu;subst hu;rfl
         case a3=>unfold maxLen;omega
         case a4=>omega
         case a5=>simp;omega
         intro v' w2 hown' hgrow _ hat
         have HO2:Hid (Own w2 wo.heap.size v' ((ksN bs p k (ys.length+1)).map fun k:Nat=>(k:Int))):=by
          rw [HKM.out]
          refine Lib.hid ⟨by simpa using hown',fun z hz => ?_⟩
          rcases zI.1 hz with hz|hz
          ·exact HO.out.2 z hz
          ·rw [zH] at hz;subst hz;constructor<;>omega
         have HB2:Hid (Below wo.heap.size wo w2):=(HB.out.alloc hsz _).grown hgrow (by simp;omega) (fun g hg=>(HO.out.1.lt g hg).1)
         obtain ⟨A2,c2,hv2, -, -, -⟩:=wK hown'
         subst hv2
         clear hown' hgrow hat e1
         have e1:=(HS3.out.keep HB2.out).b.cell P
         rw [gO HBP.out] at e1
         obtain ⟨A',c',hv', -, -, -,hrd⟩:=HV.out.keep (HS3.out.keep HB2.out).bl
         injection hv' with g1 g2 g3
         subst g1 g3
         obtain ⟨b1,o1,rfl,hb1,hx1,hy1,hz1⟩:=hrd.diff HHE.out
         clear hrd hx1 hz1
         by_cases hend:e.y=p k
         ·have de:(e.y == p k)=true:=by simp [hend]
          have hd1:ys.length+1=d:=by
           refine qB fun hne => ?_
           exact HD3.out (ys.length+1) (by omega) (by omega) (by rw [←vF,←HY.out,hend])
          rw [hd1] at HO2
          clear hend
          go_wp2_with fail
          go_ret
          obtain ⟨k1,k2⟩:=fD HW.out d0 HD2.out HD4.out
          refine ⟨HS3.out.bl.trans (HB2.out.mono HS3.out.bl.size), .inr ⟨_,_,rfl,?_,k1,k2,by simp [ksN];omega⟩⟩
          exact ⟨aF HO2.out.1 HS3.out.bl.size,HO2.out.2⟩
         ·have de:(e.y == p k)=false:=by simp [hend]
          have hd1:ys.length+1<d:=by
           refine qB fun hne=>hend ?_
           rw [HY.out,vF,show ys.length+1=d by omega,HD2.out]
          clear hend
          go_wp2_with fail
          exact ⟨⟨ys.length+1,hd1,by rw [HY.out,vF],HO2.out,HB2.out⟩,by simp only;omega⟩
end Go.Proofs.Yticieifacalocaa
