/- OpenP HoldsR Lit Bell -/
import Derived.Test.YticieifacalocaaTSB4
import Derived.Laws.IdiomArrays
namespace Go.Proofs.Yticieifacalocaa
open Go.ChangeShapes Go.WideShapes Go.ChangeAt Go.RowKit Go.Deep Go.Joins
section
variable {H:Type} {enc:TypeId × Value→H} {P:Program} {w:World}
theorem iG {n:Int} (h:(Lit.int .u8 n).wf=true):0≤n∧n≤255:=by
 simpa [Lit.wf,IntKind.min,IntKind.max,IntKind.signed,IntKind.bits] using h
theorem rd_byts {t e:TypeId} {fuel:Nat} {v:Value} {x:DataW H × List MemPlace} (ht:P.underlying t=some (.slice e)) (he:P.underlying e=some (.int .u8)) (hc:P.cellsOf e=1)
  (h:DataW.trod enc P w 0 (fun _=>true) true fuel t [v]=some x):∃xs,Byts w v xs:=by
 obtain ⟨xs,A,c,D,rfl,h1,h2,h3,h4,_,_⟩:=open_sl (α:=Int) (Q:=fun a _=>0≤a∧a≤255) (g:=fun a=>[.int .u8 a]) ht hc (by omega) (fun _=>rfl)
  (fun n cs y hy=>by obtain ⟨a,rfl,_,hw⟩:=uR he hy;exact ⟨a,rfl,iG hw⟩) h
 rw [rY] at h3
 refine ⟨xs,A,c,rfl,h1,h2,fun x hx => ?_,h3⟩
 obtain ⟨i,hi,rfl⟩:=qX hx
 exact h4 i _ (List.getElem?_eq_getElem hi)
set_option maxRecDepth 100000 in
theorem rd_prob {b0:Nat} {W:World} {v:Value} {d:DataW H} {p:List MemPlace} (hv:Value.okWide Try.prog W .any b0 25 v) (h:DataW.Trod enc Try.prog W 0 (fun _=>true) true 25 v d p) :
  ∃a b c L,pX W v a b c L:=by
 obtain ⟨cs,rfl,hsz⟩:=okWide_struct Try.underlying25 hv
 rw [show Try.prog.cellsOf 25=4 by kernel_rfl] at hsz
 obtain ⟨c0,c1,c2,c3,rfl⟩:∃c0 c1 c2 c3,cs = #[c0,c1,c2,c3]:=by
  match cs,hsz with
  | ⟨[c0,c1,c2,c3]⟩,_=>exact ⟨c0,c1,c2,c3,rfl⟩
 obtain ⟨fuel,hf⟩:=h
 obtain ⟨y0,y1,n,_,_,h0,h1⟩:=trod_struct2 Try.underlying25 hf
 have h0':DataW.trod enc Try.prog W 0 (fun _=>true) true n 22 [c0,c1,c2]=some y0:=by
  rw [show Try.prog.cellsOf 22=3 by kernel_rfl] at h0
  exact h0
 have h1':DataW.trod enc Try.prog W 0 (fun _=>true) true n 23 [c3]=some y1:=by
  rw [show Try.prog.cellsOf 23=1 by kernel_rfl] at h1
  exact h1
 obtain ⟨z0,z1,z2,m,_,g0,g1,g2⟩:=trod_array3 Try.underlying22 (by kernel_rfl) h0'
 obtain ⟨a,ea,_,wa⟩:=uR Try.underlying5 g0
 obtain ⟨b,eb,_,wb⟩:=uR Try.underlying5 g1
 obtain ⟨c,ec,_,wc⟩:=uR Try.underlying5 g2
 injection ea with ea
 injection eb with eb
 injection ec with ec
 subst ea eb ec
 obtain ⟨L,hL⟩:=rd_byts Try.underlying23 Try.underlying5 (by kernel_rfl) h1'
 exact ⟨a,b,c,L,c3,rfl,iG wa,iG wb,iG wc,hL⟩
end
open Go.ChangeShapes Go.WideShapes Go.ChangeAt Go.RowKit Go.Deep Go.Joins
open Go.RowKit
section
variable (bv iv:Value) (bs:List Bool) (w:World)
theorem tF :
  Calls Try.prog 29 #[.int .i64 0, .agg #[bv,iv]] w fun e w'=>e = .returned (.bool false)∧Below w.heap.size w w':=by
 go_enter Try.func29,Try.ntmps29
 go_wp2
 go_ret
 exact ⟨rfl,by go_grown⟩
theorem rholds_pos (n:Nat) (hb:Bools w bv bs) (hl:n+1≤9223372036854775807) :
  Calls Try.prog 29 #[.int .i64 ((n:Int)+1), .agg #[bv,iv]] w fun e w'=>e = .returned (.bool (bs.getD n false))∧Below w.heap.size w w':=by
 obtain ⟨A,c,rfl,h1,h2,hr⟩:=hb
 unfold maxLen at h2
 have hz:(((n:Int)+1) == 0)=false:=by simp;omega
 by_cases hlt:n<bs.length
 ·obtain ⟨x,hx⟩:∃x,bs[n]? = some x:=⟨_,List.getElem?_eq_getElem hlt⟩
  obtain ⟨b1,o1,rfl,hb1,hc1⟩:=hr.bool hx
  have HX:bs.getD n false=x:=by simp [List.getD,hx]
  rw [HX]
  clear hx hr HX
  have h3:decide ((bs.length:Int)<(n:Int)+1)=false:=by simp;omega
  have h4:decide ((n:Int)+1 < -(bs.length:Int))=false:=by simp;omega
  go_enter Try.func29,Try.ntmps29
  go_wp2
  go_ret
  exact ⟨by simp,by go_grown⟩
 ·have HX:bs.getD n false=false:=by simp [List.getD,List.getElem?_eq_none (Nat.le_of_not_lt hlt)]
  rw [HX]
  clear hr HX
  have h3:decide ((bs.length:Int)<(n:Int)+1)=true:=by simp;omega
  go_enter Try.func29,Try.ntmps29
  go_wp2
  go_ret
  exact ⟨by simp,by go_grown⟩
theorem rholds_neg (n:Nat) (hb:Bools w bv bs) (hl:n+1≤9223372036854775808) :
  Calls Try.prog 29 #[.int .i64 (-((n:Int)+1)), .agg #[bv,iv]] w fun e w'=>e = .returned (.bool ((bs[n]?).any (!·)))∧Below w.heap.size w w':=by
 obtain ⟨A,c,rfl,h1,h2,hr⟩:=hb
 unfold maxLen at h2
 have hz:((-((n:Int)+1)) == 0)=false:=by simp;omega
 have h3:decide ((bs.length:Int) < -((n:Int)+1))=false:=by simp;omega
 by_cases hlt:n<bs.length
 ·obtain ⟨x,hx⟩:∃x,bs[n]? = some x:=⟨_,List.getElem?_eq_getElem hlt⟩
  obtain ⟨b1,o1,rfl,hb1,hc1⟩:=hr.bool hx
  rw [hx]
  clear hx hr
  have h4:decide (-((n:Int)+1) < -(bs.length:Int))=false:=by simp;omega
  go_enter Try.func29,Try.ntmps29
  go_wp2
  go_ret
  exact ⟨by simp,by go_grown⟩
 ·have HX:(bs[n]?).any (!·)=false:=by simp [List.getElem?_eq_none (Nat.le_of_not_lt hlt)]
  rw [HX]
  clear hr HX
  have h4:decide (-((n:Int)+1) < -(bs.length:Int))=true:=by simp;omega
  go_enter Try.func29,Try.ntmps29
  go_wp2
  go_ret
  exact ⟨by simp,by go_grown⟩
theorem rholds_any (lit:Int) (hb:Bools w bv bs) (hl:I64 lit) :
  Calls Try.prog 29 #[.int .i64 lit, .agg #[bv,iv]] w fun e w'=>e = .returned (.bool (holds bs lit))∧Below w.heap.size w w':=by
 obtain ⟨hl1,hl2⟩:=hl
 rcases bR lit with rfl|⟨n,rfl⟩|⟨n,rfl⟩
 ·exact tF bv iv w
 ·rw [dY];exact rholds_pos bv iv bs w n hb (by omega)
 ·rw [bA];exact rholds_neg bv iv bs w n hb (by omega)
end
theorem aD {w w':World} {g:Nat} {xs:List Int} (hb:Blk w g 3 (xs.map (Value.int .i64)).toArray) (hk:Below w.heap.size w w') (hx:∀x∈xs,I64 x) (hl:xs.length≤maxLen) :
  Ints w' (.slice (some ⟨g,0,none⟩) xs.length xs.length) xs:=by
 have hb':=hb.keep hk
 refine ⟨_,_,rfl,Nat.le_refl _,hl,hx,fun _=>⟨g,0,rfl,hb'.lt,fun j u hu => ?_⟩⟩
 rw [hb'.cell,yA]
 simpa using hu
theorem diffs_lit {w:World} {g:Nat} {ds:List Diff} (hb:Blk w g 50 (ds.flatMap Diff.cells).toArray) (hx:∀d∈ds,d.ok) (hl:ds.length≤maxLen) :
  Diffs w (.slice (some ⟨g,0,none⟩) ds.length ds.length) ds:=by
 refine ⟨_,_,rfl,Nat.le_refl _,hl,hx,fun _=>⟨g,0,rfl,hb.lt,fun j u hu => ?_⟩⟩
 rw [hb.cell,yA]
 simpa using hu
theorem mat_lit {w:World} {g:Nat} {vs:List Value} {xss:List (List Int)} (hb:Blk w g 33 vs.toArray) (hl:vs.length=xss.length) (hm:xss.length≤maxLen)
  (hi:∀(k:Nat) (u:Value) (xs:List Int),vs[k]? = some u→xss[k]? = some xs→Ints w u xs) :
  Mat w (.slice (some ⟨g,0,none⟩) xss.length xss.length) xss:=by
 refine ⟨_,_,vs,rfl,Nat.le_refl _,hm,hl,fun _=>⟨g,0,rfl,hb.lt,fun j u hu => ?_⟩,hi⟩
 rw [hb.cell,yA]
 simpa using hu
def gi (xs:List Int) (v:Int):Int:=xs.getD v.toNat 0
theorem cF {xs:List Int} {v u a:Int} (h0:0≤v) (h1:v<xs.length) (hu:0≤u):gi (xs.set v.toNat a) u=if u=v then a else gi xs u:=by
 unfold gi
 rw [List.getD_eq_getElem?_getD,List.getD_eq_getElem?_getD,yW]
 by_cases e:u=v
 ·subst e;rw [if_pos rfl,if_pos (by omega),if_pos rfl];rfl
 ·rw [if_neg (by omega),if_neg e]
def cG (n:Nat) (M:Int) (l:List Diff):Prop:=∀(k:Nat) (e:Diff),l[k]? = some e→0≤e.x∧e.x<n∧0≤e.y∧e.y<n∧e.x≠e.y ∧ -M≤e.c∧e.c≤M
structure BF (n:Nat) (M:Int) (l:List Diff) (r i:Nat) (xs bs:List Int) (last:Int) (t:Int→Int) (s:Int→Nat) (N:Nat):Prop where
 lx:xs.length=n
 lb:bs.length=n
 par:∀v:Int,0≤v→v<n→(gi bs v = -1∧t v = -1∧s v=0)∨(∃(k:Nat) (e:Diff),gi bs v=k∧l[k]? = some e∧e.x=v∧gi xs e.y+e.c≤gi xs v∧(s v<s e.y→gi xs e.y+e.c<gi xs v)∧0≤t v∧t v-1≤t e.y∧0<s v)
 rel:∀(k:Nat) (e:Diff),l[k]? = some e→gi xs e.y+e.c<gi xs e.x→(r:Int)-1≤t e.y∧(k<i→(r:Int)≤t e.y)
 tr:∀v,t v≤r
 inj:∀u v,0<s u→s u=s v→u=v
 sN:∀v,s v≤N
 last:(last = -1∧∀v,t v≤(r:Int)-1)∨(0≤last∧last<n∧t last=r)
 bd:∀v:Int,0≤v→v<n → -(M * ((r * l.length+i:Nat):Int))≤gi xs v∧gi xs v≤0
def Bell (n:Nat) (M:Int) (l:List Diff) (r i:Nat) (xs bs:List Int) (last:Int):Prop:=∃t s N,BF n M l r i xs bs last t s N
theorem Bell.start (n:Nat) (M:Int) (l:List Diff):Bell n M l 0 0 (List.replicate n 0) (List.replicate n (-1)) (-1):=by
 refine ⟨fun _ => -1,fun _=>0,0,by simp,by simp,fun v h0 h1 => .inl ⟨?_,rfl,rfl⟩,fun k e _ h => ?_,by simp,by simp,by simp, .inl ⟨rfl,by simp⟩,fun v h0 h1 => ?_⟩
 ·unfold gi;rw [List.getD_eq_getElem?_getD,List.getElem?_replicate,if_pos (by omega)];rfl
 ·simp
 ·have:gi (List.replicate n 0) v=0:=by unfold gi;rw [List.getD_eq_getElem?_getD,List.getElem?_replicate,if_pos (by omega)];rfl
  rw [this];simp
theorem Bell.no {n:Nat} {M:Int} {l:List Diff} {r i:Nat} {xs bs:List Int} {last:Int} (h:Bell n M l r i xs bs last) (hM:0≤M) {e:Diff} (he:l[i]? = some e) (hle:gi xs e.x≤gi xs e.y+e.c) :
  Bell n M l r (i+1) xs bs last:=by
 obtain ⟨t,s,N,h⟩:=h
 refine ⟨t,s,N,h.lx,h.lb,h.par,fun k e' hk hlt=>⟨(h.rel k e' hk hlt).1,fun hki => ?_⟩,h.tr,h.inj,h.sN,h.last,fun v h0 h1=>⟨?_,(h.bd v h0 h1).2⟩⟩
 ·by_cases hk':k=i
  ·subst hk';rw [he] at hk;injection hk with hk;subst hk;omega
  ·exact (h.rel k e' hk hlt).2 (by omega)
 ·have:=(h.bd v h0 h1).1
  have h3:M * ((r * l.length+(i+1):Nat):Int)=M * ((r * l.length+i:Nat):Int)+M:=by
   rw [show ((r * l.length+(i+1):Nat):Int)=((r * l.length+i:Nat):Int)+1 by omega,kH,wM]
  omega
theorem Bell.yes {n:Nat} {M:Int} {l:List Diff} {r i:Nat} {xs bs:List Int} {last:Int} (h:Bell n M l r i xs bs last) (hl:cG n M l) {e:Diff} (he:l[i]? = some e) (hlt:gi xs e.y+e.c<gi xs e.x) :
  Bell n M l r (i+1) (xs.set e.x.toNat (gi xs e.y+e.c)) (bs.set e.x.toNat i) e.x:=by
 obtain ⟨t,s,N,h⟩:=h
 obtain ⟨x0,x1,y0,y1,hne,c0,c1⟩:=hl i e he
 have hgx:∀u,0≤u→gi (xs.set e.x.toNat (gi xs e.y+e.c)) u=if u=e.x then gi xs e.y+e.c else gi xs u:=fun u hu=>cF x0 (by rw [h.lx];exact x1) hu
 have hgb:∀u,0≤u→gi (bs.set e.x.toNat i) u=if u=e.x then (i:Int) else gi bs u:=fun u hu=>cF x0 (by rw [h.lb];exact x1) hu
 have hgle:∀u,0≤u→gi (xs.set e.x.toNat (gi xs e.y+e.c)) u≤gi xs u:=by
  intro u hu;rw [hgx u hu];split
  ·rename_i eq;subst eq;omega
  ·omega
 have hrel:=h.rel i e he hlt
 have sX:∀v,(if v=e.x then N+1 else s v)≤N+1:=by intro v;split;omega;have:=h.sN v;omega
 refine ⟨fun v=>if v=e.x then r else t v,fun v=>if v=e.x then N+1 else s v,N+1,by simp [h.lx],by simp [h.lb],fun v v0 v1 => ?_,fun k e2 hk h2 => ?_,fun v => ?_,fun u v hu huv => ?_,sX, .inr ⟨x0,x1,by simp⟩,fun v v0 v1 => ?_⟩
 ·by_cases hv:v=e.x
  ·right
   refine ⟨i,e,by rw [hgb v v0,if_pos hv],he,hv.symm,?_,?_,?_,?_,?_⟩
   ·rw [hgx v v0,if_pos hv,hgx e.y y0,if_neg (wK hne)];omega
   ·intro hs;rw [if_pos hv,if_neg (wK hne)] at hs;have:=h.sN e.y;omega
   ·simp [hv]
   ·rw [if_pos hv,if_neg (wK hne)];exact hrel.1
   ·simp [hv]
  ·rcases h.par v v0 v1 with ⟨p1,p2,p3⟩|⟨k,e2,p1,p2,p3,p4,p5,p6,p7,p8⟩
   ·left;exact ⟨by rw [hgb v v0,if_neg hv];exact p1,by simp [hv,p2],by simp [hv,p3]⟩
   ·right
    obtain ⟨_,_,y20,y21,hne2,_,_⟩:=hl k e2 p2
    refine ⟨k,e2,by rw [hgb v v0,if_neg hv];exact p1,p2,p3,?_,?_,by simp [hv,p6],?_,by simp [hv,p8]⟩
    ·rw [hgx v v0,if_neg hv];have:=hgle e2.y y20;omega
    ·intro hs;rw [hgx v v0,if_neg hv]
     by_cases hy:e2.y=e.x
     ·rw [hgx e2.y y20,if_pos hy];rw [hy] at p4;omega
     ·rw [if_neg hv,if_neg hy] at hs
      have:=p5 hs;have:=hgle e2.y y20;omega
    ·rw [if_neg hv];split
     ·have:=h.tr v;omega
     ·exact p7
 ·obtain ⟨x20,x21,y20,y21,hne2,_,_⟩:=hl k e2 hk
  by_cases hki:k=i
  ·subst hki;rw [he] at hk;injection hk with hk;subst hk
   rw [hgx e.x x0,if_pos rfl,hgx e.y y0,if_neg (wK hne)] at h2;omega
  ·by_cases hy:e2.y=e.x
   ·simp [hy];omega
   ·rw [hgx e2.y y20,if_neg hy] at h2
    have h3:gi xs e2.y+e2.c<gi xs e2.x:=by have:=hgle e2.x x20;omega
    obtain ⟨r1,r2⟩:=h.rel k e2 hk h3
    simp only [if_neg hy]
    exact ⟨r1,fun hk'=>r2 (by omega)⟩
 ·show (if v=e.x then (r:Int) else t v)≤r
  split
  ·omega
  ·exact h.tr v
 ·by_cases h1:u=e.x<;>by_cases h2:v=e.x
  ·rw [h1,h2]
  ·rw [if_pos h1,if_neg h2] at huv;have:=h.sN v;omega
  ·rw [if_neg h1,if_pos h2] at huv;have:=h.sN u;omega
  ·rw [if_neg h1] at hu;rw [if_neg h1,if_neg h2] at huv;exact h.inj u v hu huv
 ·have h3:M * ((r * l.length+(i+1):Nat):Int)=M * ((r * l.length+i:Nat):Int)+M:=by
   rw [show ((r * l.length+(i+1):Nat):Int)=((r * l.length+i:Nat):Int)+1 by omega,kH,wM]
  have b1:=h.bd v v0 v1
  have b2:=h.bd e.y y0 y1
  have b3:=h.bd e.x x0 x1
  rw [hgx v v0]
  split<;>omega
theorem Bell.next {n:Nat} {M:Int} {l:List Diff} {r:Nat} {xs bs:List Int} {last:Int} (h:Bell n M l r l.length xs bs last):Bell n M l (r+1) 0 xs bs (-1):=by
 obtain ⟨t,s,N,h⟩:=h
 refine ⟨t,s,N,h.lx,h.lb,h.par,fun k e hk hlt=>⟨?_,fun h0=>by omega⟩,fun v=>by have:=h.tr v;omega,h.inj,h.sN, .inl ⟨rfl,fun v=>by have:=h.tr v;omega⟩,fun v h0 h1 => ?_⟩
 ·have:=(h.rel k e hk hlt).2 (zG.1 hk).1;omega
 ·have:=h.bd v h0 h1
  rw [show (r+1) * l.length+0=r * l.length+l.length by rw [Nat.succ_mul];omega];exact this
theorem Bell.solved {n:Nat} {M:Int} {l:List Diff} {r:Nat} {xs bs:List Int} (h:Bell n M l r l.length xs bs (-1)) {k:Nat} {e:Diff} (hk:l[k]? = some e):gi xs e.x≤gi xs e.y+e.c:=by
 obtain ⟨t,s,N,h⟩:=h
 rcases Int.lt_or_le (gi xs e.y+e.c) (gi xs e.x) with hlt|hge
 ·have h1:=(h.rel k e hk hlt).2 (zG.1 hk).1
  rcases h.last with ⟨_,h2⟩|⟨h2,_⟩
  ·have:=h2 e.y;omega
  ·omega
 ·exact hge
theorem Bell.lens {n:Nat} {M:Int} {l:List Diff} {r i:Nat} {xs bs:List Int} {last:Int} (h:Bell n M l r i xs bs last):xs.length=n∧bs.length=n:=by
 obtain ⟨t,s,N,h⟩:=h;exact ⟨h.lx,h.lb⟩
theorem Bell.bound {n:Nat} {M:Int} {l:List Diff} {r i:Nat} {xs bs:List Int} {last:Int} (h:Bell n M l r i xs bs last):∀v:Int,0≤v→v<n → -(M * ((r * l.length+i:Nat):Int))≤gi xs v∧gi xs v≤0:=by
 obtain ⟨t,s,N,h⟩:=h;exact h.bd
def Way (n:Nat) (l:List Diff) (bs:List Int) (p:Nat→Int):Prop :=
 ∀j,0≤p j∧p j<n∧∃(k:Nat) (e:Diff),gi bs (p j)=k∧l[k]? = some e∧e.x=p j∧e.y=p (j+1)
theorem pigeon (n:Nat) (p:Nat→Int) (h:∀j,j≤n→0≤p j∧p j<n):∃j k,j<k∧k≤n∧p j=p k:=by
 induction n generalizing p with
 | zero=>have:=h 0 (by omega);omega
 | succ n ih =>
  by_cases hx:∃j,j≤n∧p j=p (n+1)
  ·obtain ⟨j,hj,e⟩:=hx;exact ⟨j,n+1,by omega,by omega,e⟩
  ·have hne:∀j,j≤n→p j≠p (n+1):=fun j hj e=>hx ⟨j,hj,e⟩
   have hl:=h (n+1) (by omega)
   obtain ⟨j,k,h1,h2,h3⟩:=ih (fun j=>if p j=n then p (n+1) else p j) (fun j hj=>by
    have h1:=h j (by omega);have h2:=hne j hj
    show 0≤(if p j=n then p (n+1) else p j)∧(if p j=n then p (n+1) else p j)<n
    split<;>omega)
   refine ⟨j,k,h1,by omega,?_⟩
   have hj:=hne j (by omega)
   have hk:=hne k (by omega)
   split at h3<;>split at h3<;>omega
theorem least_of {P:Nat→Prop} {d:Nat} (h0:0<d) (h:P d):∃m,0<m∧m≤d∧P m∧∀k,0<k→k<m→¬P k:=by
 induction d using Nat.strongRecOn with
 | ind d ih =>
  by_cases hx:∃k,0<k∧k<d∧P k
  ·obtain ⟨k,k0,kd,hk⟩:=hx
   obtain ⟨m,m0,m1,m2,m3⟩:=ih k kd k0 hk
   exact ⟨m,m0,by omega,m2,m3⟩
  ·exact ⟨d,h0,by omega,h,fun k k0 kd hk=>hx ⟨k,k0,kd,hk⟩⟩
def itN (f:Int→Int) (a:Int):Nat→Int
 | 0=>a
 | j+1=>f (itN f a j)
def pO (l:List Diff) (bs:List Int) (p:Nat→Int) (a:Nat):Nat→Int
 | 0=>0
 | m+1=>pO l bs p a m+((l[(gi bs (p (a+m))).toNat]?).getD ⟨0,0,0⟩).c
theorem Bell.way {n:Nat} {M:Int} {l:List Diff} {r:Nat} {xs bs:List Int} {last:Int} (h:Bell n M l r l.length xs bs last) (hl:cG n M l) (h0:0≤last) (hr:n≤r+1) :
  ∃p:Nat→Int,p 0=last∧Way n l bs p∧∃d,0<d∧d≤n∧p (n+d)=p n∧(∀m,0<m→m<d→p (n+m)≠p n)∧pO l bs p n d<0:=by
 obtain ⟨t,s,N,h⟩:=h
 have hlast:0≤last∧last<n∧t last=r:=by
  rcases h.last with ⟨h1,_⟩|h1
  ·omega
  ·exact h1
 let nxt:Int→Int:=fun v=>((l[(gi bs v).toNat]?).getD ⟨0,0,0⟩).y
 let p:Nat→Int:=itN nxt last
 have hp:∀j,p (j+1)=nxt (p j):=fun _=>rfl
 have hstep:∀v:Int,0≤v→v<n→gi bs v ≠ -1→0≤nxt v∧nxt v<n∧t v-1≤t (nxt v)∧∃(k:Nat) (e:Diff),gi bs v=k∧l[k]? = some e∧e.x=v∧e.y=nxt v:=by
  intro v v0 v1 hv
  rcases h.par v v0 v1 with ⟨p1,_⟩|⟨k,e,p1,p2,p3,p4,p5,p6,p7,p8⟩
  ·exact absurd p1 hv
  ·have e1:nxt v=e.y:=by show ((l[(gi bs v).toNat]?).getD ⟨0,0,0⟩).y=e.y;rw [p1,Int.toNat_natCast,p2];rfl
   obtain ⟨_,_,y0,y1,_⟩:=hl k e p2
   rw [e1]
   exact ⟨y0,y1,p7,k,e,p1,p2,p3,rfl⟩
 have hgood:∀v:Int,0≤v→v<n→0≤t v→gi bs v ≠ -1:=by
  intro v v0 v1 tv hb
  rcases h.par v v0 v1 with ⟨_,p2,_⟩|⟨k,e,p1,_⟩
  ·omega
  ·omega
 have hch:∀j,j≤n→(0≤p j∧p j<n)∧(r:Int)-j≤t (p j):=by
  intro j
  induction j with
  | zero=>intro _;exact ⟨⟨hlast.1,hlast.2.1⟩,by show (r:Int)-0≤t last;omega⟩
  | succ j ih =>
   intro hj
   obtain ⟨⟨a0,a1⟩,a2⟩:=ih (by omega)
   obtain ⟨b0,b1,b2,_⟩:=hstep (p j) a0 a1 (hgood _ a0 a1 (by omega))
   rw [hp j]
   exact ⟨⟨b0,b1⟩,by omega⟩
 obtain ⟨j,k,hjk,hkn,hpe⟩:=pigeon n p fun j hj=>(hch j hj).1
 have hper:∀m,p (j+m+(k-j))=p (j+m):=by
  intro m
  induction m with
  | zero=>rw [vE,show j+(k-j)=k by omega];exact hpe.symm
  | succ m ih=>rw [show j+(m+1)+(k-j)=j+m+(k-j)+1 by omega,hp,ih,show j+(m+1)=j+m+1 by omega,hp]
 have hall:∀m,(0≤p m∧p m<n)∧gi bs (p m) ≠ -1:=by
  intro m
  induction m using Nat.strongRecOn with
  | ind m ih =>
   by_cases hm:m<n
   ·obtain ⟨a,b⟩:=hch m (by omega)
    exact ⟨a,hgood _ a.1 a.2 (by omega)⟩
   ·have e:p m=p (m-(k-j)):=by
     have:=hper (m-(k-j)-j)
     rw [show j+(m-(k-j)-j)+(k-j)=m by omega,show j+(m-(k-j)-j)=m-(k-j) by omega] at this
     exact this
    rw [e];exact ih _ (by omega)
 have hway:Way n l bs p:=fun m=>by
  obtain ⟨⟨a0,a1⟩,a2⟩:=hall m
  obtain ⟨_,_,_,k,e,q1,q2,q3,q4⟩:=hstep (p m) a0 a1 a2
  exact ⟨a0,a1,k,e,q1,q2,q3,by rw [q4,hp]⟩
 obtain ⟨d,d0,d1,d2,d3⟩:=least_of (P:=fun d=>p (n+d)=p n) (d:=k-j) (by omega) (by
  have:=hper (n-j)
  rwa [show j+(n-j)=n by omega] at this)
 refine ⟨p,rfl,hway,d,d0,by omega,d2,d3,?_⟩
 have hedge:∀m,gi xs (p (m+1))+((l[(gi bs (p m)).toNat]?).getD ⟨0,0,0⟩).c≤gi xs (p m)∧(s (p m)<s (p (m+1))→gi xs (p (m+1))+((l[(gi bs (p m)).toNat]?).getD ⟨0,0,0⟩).c<gi xs (p m))∧0<s (p m)∧p (m+1)≠p m:=by
  intro m
  obtain ⟨⟨a0,a1⟩,a2⟩:=hall m
  rcases h.par (p m) a0 a1 with ⟨p1,_⟩|⟨k,e,p1,p2,p3,p4,p5,p6,p7,p8⟩
  ·exact absurd p1 a2
  ·have e1:p (m+1)=e.y:=by rw [hp];show ((l[(gi bs (p m)).toNat]?).getD ⟨0,0,0⟩).y=e.y;rw [p1,Int.toNat_natCast,p2];rfl
   rw [e1,p1,Int.toNat_natCast,p2]
   obtain ⟨_,_,_,_,hne,_⟩:=hl k e p2
   exact ⟨p4,p5,p8,by rw [←p3];exact wK hne⟩
 have htel:∀m,gi xs (p (n+m))+pO l bs p n m≤gi xs (p n)∧((∃q,q<m∧s (p (n+q))<s (p (n+q+1)))→gi xs (p (n+m))+pO l bs p n m<gi xs (p n)):=by
  intro m
  induction m with
  | zero=>exact ⟨by simp [pO],fun ⟨q,hq,_⟩=>by omega⟩
  | succ m ih =>
   obtain ⟨i1,i2⟩:=ih
   obtain ⟨g1,g2,_,_⟩:=hedge (n+m)
   rw [show n+(m+1)=n+m+1 by omega,pO]
   refine ⟨by omega,fun ⟨q,hq,hs⟩ => ?_⟩
   by_cases hqm:q=m
   ·subst hqm;have:=g2 hs;omega
   ·have:=i2 ⟨q,by omega,hs⟩;omega
 obtain ⟨t1,t2⟩:=htel d
 rw [d2] at t1 t2
 have:∃q,q<d∧s (p (n+q))<s (p (n+q+1)):=by
  refine qD fun hno => ?_
  have hdn:∀q,q≤d→s (p (n+d))≤s (p (n+(d-q))):=by
   intro q
   induction q with
   | zero=>intro _;exact Nat.le_refl _
   | succ q ih =>
    intro hq
    have h1:=ih (by omega)
    have h2:¬s (p (n+(d-(q+1))))<s (p (n+(d-(q+1))+1)):=fun hs=>hno ⟨d-(q+1),by omega,hs⟩
    rw [show n+(d-(q+1))+1=n+(d-q) by omega] at h2
    omega
  have h1:=hdn (d-1) (by omega)
  rw [show n+(d-(d-1))=n+1 by omega,d2] at h1
  have h2:¬s (p (n+0))<s (p (n+0+1)):=fun hs=>hno ⟨0,d0,hs⟩
  simp only [vE] at h2
  obtain ⟨_,_,g3,g4⟩:=hedge n
  exact g4 (h.inj (p (n+1)) (p n) (by omega) (by omega))
 have:=t2 this
 omega
end Go.Proofs.Yticieifacalocaa
