/- Same Make Neg Cycle Cyclic Resolve Derive -/
import Derived.Laws.MakeOwn
import Derived.Deep.DeepCutAuto
import Derived.Test.YticieifacalocaaTSG14
import Derived.Test.YticieifacalocaaTSG21
import Derived.Deep.RegionLaw
namespace Go.Proofs.Yticieifacalocaa
open Go.RowKit
set_option maxHeartbeats 400000 in
theorem same_any (a b:Value) (xs ys:List Int) (w:World) (ha:Ints w a xs) (hb:Ints w b ys) :
  Calls Try.prog 27 #[a,b] w fun e w'=>e = .returned (.bool (decide (xs=ys)))∧∃n,w'=w.drewN n:=by
 obtain ⟨A,c,rfl,hl,hm,hx,hr⟩:=ha
 obtain ⟨A',c',rfl,hl',hm',hx',hr'⟩:=hb
 unfold maxLen at hm hm'
 by_cases hlen:xs.length=ys.length
 ·have hne:((xs.length:Int) != (ys.length:Int))=false:=by simp;omega
  have HX:=Lib.hid hx
  have HX':=Lib.hid hx'
  have HR:=Lib.hid hr
  have HR':=Lib.hid hr'
  have HL:=Lib.hid hlen
  clear hx hx' hr hr' hlen
  go_enter Try.func27,Try.ntmps27
  go_wp2
  go_loopw [13] (fun i wr=>∃k n,k≤xs.length∧i = .int .i64 (k:Nat)∧xs.take k=ys.take k∧wr=w.drewN n) (fun i _=>xs.length-(intOf i).toNat)
  case atStart=>exact ⟨0,0,by omega,rfl,by simp,rfl⟩
  case round =>
   obtain ⟨k,n,hk,rfl,heq,rfl⟩:=hrel
   have HE:=Lib.hid heq
   clear heq
   by_cases hlt:k<xs.length
   ·obtain ⟨x,hxk⟩:∃x,xs[k]? = some x:=⟨_,List.getElem?_eq_getElem hlt⟩
    obtain ⟨y,hyk⟩:∃y,ys[k]? = some y:=⟨_,List.getElem?_eq_getElem (by have:=HL.out;omega)⟩
    obtain ⟨b1,o1,rfl,hb1,hc1⟩:=HR.out.int hxk
    obtain ⟨b2,o2,rfl,hb2,hc2⟩:=HR'.out.int hyk
    have HXK:=Lib.hid hxk
    have HYK:=Lib.hid hyk
    clear hxk hyk
    have hlt2:k<ys.length:=by have:=HL.out;omega
    by_cases hxy:x=y
    ·subst hxy
     go_wp2
     go_quiet (fail)
     go_wp2
     go_roundw
     case rel=>exact ⟨k+1,_,by omega,by go_num,by rw [wN HXK.out,wN HYK.out,HE.out],rfl⟩
     case measure=>simp [intOf];omega
    ·have hbe:(x != y)=true:=by simpa using hxy
     have HD:Hid (decide (xs=ys)=false):=by
      refine decide_eq_false fun h => ?_
      subst h
      have h1:=HXK.out
      rw [HYK.out] at h1
      exact hxy (by injection h1 with h1;exact h1.symm)
     clear hxy
     go_wp2
     go_quiet (fail)
     go_wp2
     go_ret
     exact ⟨by rw [HD.out];rfl,_,kO _ _ _⟩
   ·have HD:Hid (decide (xs=ys)=true):=by
     refine decide_eq_true ?_
     have h1:=HE.out
     have h2:=HL.out
     rwa [zU (by omega),zU (by omega)] at h1
    go_wp2
    go_ret
    exact ⟨by rw [HD.out];rfl,_,rfl⟩
 ·have hd:decide (xs=ys)=false:=by simp;intro h;exact hlen (by rw [h])
  rw [hd]
  clear hx hx' hr hr'
  have hne:((xs.length:Int) != (ys.length:Int))=true:=by simp;omega
  go_enter Try.func27,Try.ntmps27
  go_wp2
  go_ret
  exact ⟨rfl,0,rfl⟩
def pad {α:Type} (z:α) (n:Nat) (ys:List α):List α:=ys++List.replicate (n-ys.length) z
section
variable {α:Type} {z x:α} {n:Nat} {ys:List α}
theorem pad_full (h:ys.length=n):pad z n ys=ys:=by simp [pad,h]
theorem pad_set (h:ys.length<n) {k:Nat} (hk:ys.length=k):(pad z n ys).set k x=pad z n (ys++[x]):=by
 subst hk
 obtain ⟨m,hm⟩:∃m,n-ys.length=m+1:=⟨n-ys.length-1,by omega⟩
 have hm2:n-(ys.length+1)=m:=by omega
 simp [pad,hm,hm2,List.replicate_succ]
theorem pad_at {k:Nat} (h:k<n) (hk:ys.length≤k):(pad z n ys)[k]? = some z:=by
 rw [pad,zK hk,List.getElem?_replicate,if_pos (by omega)]
end
def cN (xs:List Int):Array Value:=(xs.map (Value.int .i64)).toArray
section
variable {w:World} {g k:Nat} {t:TypeId} {xs:List Int} {bs:List Bool} {ds:List Diff}
theorem rowI_at {x:Int} (h:xs[k]? = some x):(cN xs)[k]? = some (.int .i64 x):=by simp [cN,h]
theorem Blk.setI (h:Blk w g t (cN xs)) (k:Nat) (x:Int):Blk (w.setCell ⟨g,k,none⟩ (.int .i64 x)) g t (cN (xs.set k x)):=by
 have:=h.set_ k (.int .i64 x)
 rwa [show (cN xs).setIfInBounds k (.int .i64 x)=cN (xs.set k x) by simp [cN]] at this
end
theorem bX (zs:Array Value) (z:Value) (n:Nat) (h0:0<zs.size) (h:∀i,i<zs.size→zs[i]! = z):madeCells zs n=(List.replicate n z).toArray:=by
 apply Array.ext
 ·simp [madeCells]
 ·intro i h1 h2
  simp only [madeCells,Array.getElem_map,Array.getElem_range]
  rw [h _ (Nat.mod_lt _ h0)]
  simp
theorem bJ {P:Program} (t e:TypeId) (i:TypeInfo) (z:Value) (ht:P.underlying t=some (.slice e)) (hi:P.info? e=some i) (hz:i.zero=some z)
  (n:Nat) (hbytes:i.bytes * n≤281474976710656) (h63:n≤9223372036854775807) (w:World) :
  (Instr.makeSlice t (.int .i64 (n:Int)) (.int .i64 (n:Int))).run P w = .ok (.slice (some ⟨w.heap.size,0,none⟩) n n) (w.alloc (.cells (madeCells z.cells (n * i.size)) e)):=by
 have hb:(i.bytes:Int) * (n:Int)≤281474976710656:=by
  have h:((i.bytes * n:Nat):Int)≤281474976710656:=by omega
  rwa [Int.natCast_mul] at h
 have hr:=run_make (P:=P) w t e i z ht hi hz .i64 .i64 n n (by omega) (by omega) hb (by omega)
 simp only [Int.toNat_natCast] at hr
 exact hr
theorem nK:(Try.prog.info? 4).map (fun i=>(i.zero,i.size,i.bytes))=some (some (.bool false),1,1):=by kernel_rfl
theorem zero_i:∀i,i<(Value.int .i64 0).cells.size→(Value.int .i64 0).cells[i]! = .int .i64 0:=fun i hi=>by
 have hi':i<1:=hi
 obtain rfl:i=0:=by omega
 rfl
theorem zero_b:∀i,i<(Value.bool false).cells.size→(Value.bool false).cells[i]! = .bool false:=fun i hi=>by
 have hi':i<1:=hi
 obtain rfl:i=0:=by omega
 rfl
theorem mk_ints (n:Nat) (h:n≤1000000) (w:World):(Instr.makeSlice 33 (.int .i64 (n:Int)) (.int .i64 (n:Int))).run Try.prog w = .ok (.slice (some ⟨w.heap.size,0,none⟩) n n) (w.alloc (.cells (cN (List.replicate n 0)) 3)):=by
 obtain ⟨i,hi,h0,h1,h2⟩:=qC gB
 rw [bJ _ _ i _ Try.underlying33 hi h0 n (by rw [h2];omega) (by omega) w,h1,bX _ (.int .i64 0) _ (by decide) zero_i,qW]
 simp [cN]
def Round (n:Nat) (M:Int) (l:List Diff) (r:Nat) (xs bs:List Int) (la:Int):Prop :=
 (r=0∧Bell n M l 0 0 xs bs (-1))∨∃q,r=q+1∧Bell n M l q l.length xs bs la∧0≤la
theorem Round.go {n:Nat} {M:Int} {l:List Diff} {r:Nat} {xs bs:List Int} {la:Int} (h:Round n M l r xs bs la):Bell n M l r 0 xs bs (-1):=by
 rcases h with ⟨rfl,h⟩|⟨q,rfl,h,_⟩
 ·exact h
 ·exact h.next
def ksN (bs:List Int) (p:Nat→Int) (n m:Nat):List Nat:=(List.range m).map fun i=>(gi bs (p (n+i))).toNat
theorem ksN_succ (bs:List Int) (p:Nat→Int) (n m:Nat):ksN bs p n (m+1)=ksN bs p n m++[(gi bs (p (n+m))).toNat]:=by
 unfold ksN;rw [List.range_succ,List.map_append];rfl
theorem ksN_sum (l:List Diff) (bs:List Int) (p:Nat→Int) (n m:Nat):csum ((ksN bs p n m).map fun k=>l.getD k ⟨0,0,0⟩)=oR l bs p n m:=by
 induction m with
 | zero=>rfl
 | succ m ih =>
  rw [ksN_succ,List.map_append,oR,←ih]
  unfold csum
  rw [List.map_append,List.sum_append,List.getD_eq_getElem?_getD.symm]
  simp
theorem cyc_of_way {n d:Nat} {l:List Diff} {bs:List Int} {p:Nat→Int} (hw:Way n l bs p) (d0:0<d) (d2:p (n+d)=p n) (d4:oR l bs p n d<0) :
  (∀k∈ksN bs p n d,k<l.length)∧Cyc ((ksN bs p n d).map fun k=>l.getD k ⟨0,0,0⟩):=by
 have hk:∀i,∃e:Diff,l[(gi bs (p (n+i))).toNat]? = some e∧e.x=p (n+i)∧e.y=p (n+i+1):=by
  intro i
  obtain ⟨_,_,k,e,h1,h2,h3,h4⟩:=hw (n+i)
  exact ⟨e,by rw [h1,Int.toNat_natCast];exact h2,h3,h4⟩
 have hat:∀i,i<d→∃e:Diff,((ksN bs p n d).map fun k=>l.getD k ⟨0,0,0⟩)[i]? = some e∧e.x=p (n+i)∧e.y=p (n+i+1):=by
  intro i hi
  obtain ⟨e,h1,h2,h3⟩:=hk i
  refine ⟨e,?_,h2,h3⟩
  unfold ksN
  rw [List.getElem?_map,List.getElem?_map,vS hi]
  simp [h1]
 have hlen:((ksN bs p n d).map fun k=>l.getD k ⟨0,0,0⟩).length=d:=by simp [ksN]
 refine ⟨fun k hm => ?_,by rw [hlen];exact d0,?_,by rw [ksN_sum];exact d4⟩
 ·unfold ksN at hm
  obtain ⟨i,_,rfl⟩:=List.mem_map.1 hm
  obtain ⟨e,h1,_⟩:=hk i
  exact (zG.1 h1).1
 ·intro i a b hi ha hb
  rw [hlen] at hi hb
  obtain ⟨e,h1,h2,h3⟩:=hat i hi
  rw [h1] at ha;injection ha with ha;subst ha
  rw [h3]
  by_cases hlt:i+1<d
  ·rw [vL hlt] at hb
   obtain ⟨e2,g1,g2,_⟩:=hat (i+1) hlt
   rw [g1] at hb;injection hb with hb;subst hb
   rw [g2,jP]
  ·have:i+1=d:=by omega
   rw [this,jS] at hb
   obtain ⟨e2,g1,g2,_⟩:=hat 0 d0
   rw [g1] at hb;injection hb with hb;subst hb
   rw [g2,jP,this,d2];rfl
def idx (n:Nat):List Int:=(List.range n).map (fun i:Nat=>(i:Int))
theorem oH (n:Nat):(idx n).length=n:=by simp [idx]
theorem idx_at {n k:Nat} (h:k<n):(idx n)[k]? = some (k:Int):=by simp [idx,h]
theorem idx_succ (n:Nat):idx (n+1)=idx n++[(n:Int)]:=by simp [idx,List.range_succ]
theorem csum_take {ds:List Diff} {k:Nat} {d:Diff} (h:ds[k]? = some d):csum (ds.take (k+1))=csum (ds.take k)+d.c:=by
 rw [wN h];simp [csum]
theorem csum_bound {ds:List Diff} {M:Int} (h:∀d∈ds, -M≤d.c∧d.c≤M) : -(M * ds.length)≤csum ds∧csum ds≤M * ds.length:=by
 induction ds with
 | nil=>simp [csum]
 | cons d r ih =>
  have h1:=h d (by simp)
  have h2:=ih fun e he=>h e (by simp [he])
  have h3:M * ((d::r).length:Int)=M * (r.length:Int)+M:=by rw [qJ,Int.natCast_succ,kD,jU]
  simp only [csum,qD,kX] at h2 ⊢
  omega
theorem sA {ds:List Diff} {k:Nat} (h:eK ds k) {a b:Diff} (ha:ds[k]? = some a) (hb:ds[(k+1) % ds.length]? = some b) (e:a.y=b.x):eK ds (k+1):=by
 intro i x y hi hx hy
 by_cases hk:i=k
 ·subst hk
  rw [ha] at hx;rw [hb] at hy
  injection hx with hx;injection hy with hy
  subst hx hy;exact e
 ·exact h i x y (by omega) hx hy
theorem cycB_no {ds:List Diff} {k:Nat} {a b:Diff} (ha:ds[k]? = some a) (hb:ds[(k+1) % ds.length]? = some b) (e:a.y≠b.x):cycB ds=false:=by
 unfold cycB
 simp only [decide_eq_false_iff_not]
 rintro ⟨_,h,_⟩
 exact e (h k a b (zG.1 ha).1 ha hb)
open Classical in
theorem cycB_yes {ds:List Diff} {k:Nat} (h0:0<ds.length) (h:eK ds k) (hk:ds.length≤k):cycB ds=decide (csum (ds.take k)<0):=by
 unfold cycB
 rw [zU hk]
 refine pA ⟨fun h=>h.2.2,fun h'=>⟨h0,fun i a b hi=>h i a b (by omega),h'⟩⟩
def CycRet (w:World) (b:Bool) (e:Ending) (w':World):Prop:=e = .returned (.bool b)∧Below w.heap.size w w'
def ClRet (w:World) (r:Option (List Int)) (e:Ending) (w':World):Prop :=
 ∃v,e = .returned (.tuple #[v, .bool r.isSome])∧Own w' w.heap.size v (r.getD [])∧Below w.heap.size w w'
theorem ClRet.no {w w':World} {r:Option (List Int)} (h:r=none) (hb:Below w.heap.size w w'):ClRet w r (.returned (.tuple #[.slice none 0 0, .bool false])) w':=by
 subst h
 exact ⟨_,rfl,⟨qG _ _ _ _,by simp⟩,hb⟩
theorem NormRet.cl {w W w':World} {xs:List Int} {r:Option (List Int)} {e:Ending} (h:NormRet W xs e w') (hr:r=wL xs) (hb:Below w.heap.size w W):ClRet w r e w':=by
 obtain ⟨v,he,⟨h1,h2⟩,h3⟩:=h
 subst hr
 exact ⟨v,he,⟨aQ h1 hb.size,h2⟩,hb.trans (h3.mono hb.size)⟩
def OkC (ds:List Diff):Prop:=∀d∈ds,d.ok ∧ -1048576≤d.c∧d.c≤1048576
theorem bound_ok {atoms:List Diff} (h:OkC atoms) {x:Int} {d:Diff} (hd:bound atoms x=some d):d.ok ∧ -1048577≤d.c∧d.c≤1048577:=by
 unfold bound at hd
 split at hd
 ·obtain ⟨h1,h2,h3⟩:=h d (List.mem_of_getElem? hd);exact ⟨h1,by omega,by omega⟩
 ·split at hd
  ·obtain ⟨e,he,rfl⟩:=qO.1 hd
   obtain ⟨⟨h1,h2,h4⟩,h3⟩:=h e (List.mem_of_getElem? he)
   refine ⟨⟨h2,h1,?_⟩,?_,?_⟩
   ·constructor<;>simp only [Diff.opp]<;>omega
   ·simp only [Diff.opp];omega
   ·simp only [Diff.opp];omega
  ·cases hd
theorem bnds_take {atoms ds:List Diff} {lits:List Int} {k:Nat} (h:(lits.take k).map (bound atoms)=ds.map some) {x:Int} (hx:lits[k]? = some x) {d:Diff} (hd:bound atoms x=some d):(lits.take (k+1)).map (bound atoms)=(ds++[d]).map some:=by
 rw [wN hx,List.map_append,h];simp [hd]
theorem bnds_ok {atoms ds:List Diff} {lits:List Int} (ha:OkC atoms) (h:lits.map (bound atoms)=ds.map some):∀d∈ds,d.ok ∧ -1048577≤d.c∧d.c≤1048577:=by
 intro d hd
 have h1:some d∈lits.map (bound atoms):=by rw [h];exact List.mem_map.2 ⟨d,hd,rfl⟩
 obtain ⟨x,_,hx⟩:=List.mem_map.1 h1
 exact bound_ok ha hx
theorem nD {atoms:List Diff} {x:Int} {d:Diff} (h:bound atoms x=some d):x ≠ -9223372036854775808∨9223372036854775807<(atoms.length:Int):=by
 by_cases e:x = -9223372036854775808
 ·right
  subst e
  unfold bound at h
  rw [if_neg (by omega),if_pos (by omega)] at h
  obtain ⟨e,he,_⟩:=qO.1 h
  have:=(zG.1 he).1
  omega
 ·exact .inl e
theorem neg_i64 {atoms ds:List Diff} {lits:List Int} (h:iR atoms lits=some ds) {x:Int} (hx:x∈lits) (h1:I64 x) (hat:atoms.length≤1000000):I64 (-x):=by
 have h2:some (bound atoms x)∈(lits.map (bound atoms)).map some:=List.mem_map.2 ⟨_,List.mem_map.2 ⟨x,hx,rfl⟩,rfl⟩
 rw [bB.1 h] at h2
 obtain ⟨y,hy,e⟩:=List.mem_map.1 h2
 injection e with e
 obtain ⟨d,_,rfl⟩:=List.mem_map.1 hy
 rcases nD e.symm with h|h
 ·obtain ⟨h3,h4⟩:=h1;constructor<;>omega
 ·omega
def resE (cs:List (List Int)) (s:Stp):Option (List Int) :=
 if 0≤s.p∧0≤s.q then (cs[s.p.toNat]?).bind fun a=>(cs[s.q.toNat]?).bind fun b=>res a b s.var else none
theorem resE_some {cs:List (List Int)} {s:Stp} {P Q:List Int} {p q:Nat} (hp:s.p=(p:Int)) (hq:s.q=(q:Int)) (h1:cs[p]? = some P) (h2:cs[q]? = some Q):resE cs s=res P Q s.var:=by
 unfold resE
 rw [if_pos (by omega),hp,hq]
 simp [h1,h2]
theorem aS {cs:List (List Int)} {s:Stp} (h:s.p<0∨(cs.length:Int)≤s.p∨s.q<0∨(cs.length:Int)≤s.q):resE cs s=none:=by
 unfold resE
 split
 ·rename_i hh
  cases e1:cs[s.p.toNat]? with
  | none=>rfl
  | some a =>
   cases e2:cs[s.q.toNat]? with
   | none=>rfl
   | some b =>
    have:=(zG.1 e1).1
    have:=(zG.1 e2).1
    omega
 ·rfl
def OkCl (c:List Int):Prop:=Up c∧∀x∈c,x≠0 ∧ -1024≤x∧x≤1024
theorem up_len {l:List Int} {a:Nat} {M:Nat} (h:Up l) (hx:∀x∈l,a<x.natAbs∧x.natAbs≤M):l.length+a≤M∨l=[]:=by
 induction l generalizing a with
 | nil=>exact .inr rfl
 | cons x r ih =>
  left
  obtain ⟨h1,h2⟩:=yW.1 h
  have hx0:=hx x (by simp)
  rcases ih (a:=x.natAbs) h2 (fun y hy=>⟨h1 y hy,(hx y (by simp [hy])).2⟩) with h3|h3
  ·rw [qJ];omega
  ·subst h3;simp;omega
theorem OkCl.len {c:List Int} (h:OkCl c):c.length≤1024:=by
 rcases up_len (a:=0) (M:=1024) h.1 (fun x hx=>by have:=h.2 x hx;omega) with h1|h1
 ·omega
 ·subst h1;simp
theorem fH {xs c:List Int} (h:wL xs=some c) (hx:∀x∈xs, -1024≤x∧x≤1024):OkCl c:=by
 have:=gF xs
 rw [h] at this
 obtain ⟨h1,h2,h3⟩:=this
 exact ⟨h1,fun x hx'=>⟨dT (h3 x ((h2 x).1 hx')),hx x ((h2 x).1 hx')⟩⟩
theorem bound_abs {atoms:List Diff} {x:Int} {d:Diff} (h:bound atoms x=some d):x≠0 ∧ -(atoms.length:Int)≤x∧x≤atoms.length:=by
 unfold bound at h
 split at h
 ·have:=(zG.1 h).1;omega
 ·split at h
  ·obtain ⟨e,he,_⟩:=qO.1 h
   have:=(zG.1 he).1;omega
  ·cases h
theorem lY {f:Form} {s:Stp} {cs:List (List Int)} {c:List Int} (hv:validF f=0) (hcs:∀c∈cs,OkCl c) (h:deriv f s cs=some c):OkCl c:=by
 obtain ⟨v1,v2,v3,v4,v5,v6,v7,v8⟩:=gT hv
 unfold deriv at h
 split at h
 ·split at h
  ·obtain ⟨a,ha,h2⟩:=yH.1 h
   refine fH h2 fun x hx => ?_
   have:=dZ.1 (v8 a (List.mem_of_getElem? ha) x hx)
   omega
  ·cases h
 ·split at h
  ·unfold cyc at h
   split at h
   ·rename_i ds hds
    split at h
    ·refine fH h fun y hy => ?_
     obtain ⟨x,hx,rfl⟩:=List.mem_map.1 hy
     have h2:some (bound f.atoms x)∈(s.lits.map (bound f.atoms)).map some:=List.mem_map.2 ⟨_,List.mem_map.2 ⟨x,hx,rfl⟩,rfl⟩
     rw [bB.1 hds] at h2
     obtain ⟨y,hy,e⟩:=List.mem_map.1 h2
     injection e with e
     obtain ⟨d,_,rfl⟩:=List.mem_map.1 hy
     have:=bound_abs e.symm
     omega
    ·cases h
   ·cases h
  ·split at h
   ·split at h
    ·obtain ⟨a,ha,h2⟩:=yH.1 h
     obtain ⟨b,hb,h3⟩:=yH.1 h2
     unfold res at h3
     split at h3
     ·refine fH h3 fun x hx => ?_
      rcases zL.1 hx with hx|hx
      ·exact ((hcs a (List.mem_of_getElem? ha)).2 x (yU.1 hx).1).2
      ·exact ((hcs b (List.mem_of_getElem? hb)).2 x (yU.1 hx).1).2
     ·cases h3
    ·cases h
   ·cases h
theorem okC_of {f:Form} (hv:validF f=0):OkC f.atoms:=by
 obtain ⟨v1,v2,v3,v4,v5,v6,v7,v8⟩:=gT hv
 intro d hd
 obtain ⟨x,y,z⟩:=d
 obtain ⟨q1,q2,q3,q4,q5,q6,q7⟩:=dO.1 (v7 _ hd)
 refine ⟨⟨⟨?_,?_⟩,⟨?_,?_⟩,⟨?_,?_⟩⟩,q6,q7⟩<;>simp only<;>omega
def Stp.cells (p:Stp × Value):List Value:=[.int .i64 p.1.kind, .int .i64 p.1.index,p.2, .int .i64 p.1.p, .int .i64 p.1.q, .int .i64 p.1.var]
def Stp.ok (s:Stp):Prop:=I64 s.kind∧I64 s.index∧I64 s.p∧I64 s.q∧I64 s.var
def Stps (w:World) (v:Value) (l:List Stp):Prop :=
 ∃(A:Option Addr) (c:Nat) (ps:List (Stp × Value)),l=ps.map (·.1)∧v = .slice A ps.length c∧ps.length≤c∧c≤maxLen∧Rd w A (ps.flatMap Stp.cells)∧∀p∈ps,Ints w p.2 p.1.lits∧p.1.ok
theorem Stps.keep {w w':World} {v:Value} {l:List Stp} (h:Stps w v l) (hb:Below w.heap.size w w'):Stps w' v l:=by
 obtain ⟨A,c,ps,h1,h2,h3,h4,h5,h6⟩:=h
 exact ⟨A,c,ps,h1,h2,h3,h4,h5.keep hb,fun p hp=>⟨(h6 p hp).1.keep hb,(h6 p hp).2⟩⟩
theorem flat_get {α β:Type} {xs:List α} {g:α→List β} {m:Nat} (hg:∀a,(g a).length=m) {k r:Nat} {a:α} (h:xs[k]? = some a) (hr:r<m):(xs.flatMap g)[k * m+r]? = (g a)[r]? := by
 induction xs generalizing k with
 | nil=>simp at h
 | cons x t ih =>
  cases k with
  | zero=>simp at h;subst h;rw [kK,uP,qY,zQ (by rw [hg];exact hr)]
  | succ k =>
   rw [kK,zK (by rw [hg,vU];omega),hg,show (k+1) * m+r-m=k * m+r by rw [vU];omega]
   exact ih (by simpa using h)
theorem Stps.at_ {w:World} {A:Option Addr} {ps:List (Stp × Value)} (h:Rd w A (ps.flatMap Stp.cells)) {k:Nat} {p:Stp × Value} (hk:ps[k]? = some p) :
  ∃b off,A=some ⟨b,off,none⟩∧b<w.heap.size∧w.cell? ⟨b,off+k * 6,none⟩=some (.int .i64 p.1.kind)∧w.cell? ⟨b,off+k * 6+1,none⟩=some (.int .i64 p.1.index)∧w.cell? ⟨b,off+k * 6+2,none⟩=some p.2 ∧
   w.cell? ⟨b,off+k * 6+3,none⟩=some (.int .i64 p.1.p)∧w.cell? ⟨b,off+k * 6+4,none⟩=some (.int .i64 p.1.q)∧w.cell? ⟨b,off+k * 6+5,none⟩=some (.int .i64 p.1.var):=by
 have hg:∀r,r<6→(ps.flatMap Stp.cells)[k * 6+r]? = (Stp.cells p)[r]? := fun r hr=>flat_get (g:=Stp.cells) (m:=6) (fun _=>rfl) hk hr
 obtain ⟨b,off,hA,hlt,hc⟩:=h (by have:=(zG.1 ((hg 0 (by omega)).trans (show (Stp.cells p)[0]? = some _ from rfl))).1;omega)
 have hx:∀r u,r<6→(Stp.cells p)[r]? = some u→w.cell? ⟨b,off+k * 6+r,none⟩=some u:=fun r u hr hu=>by
  rw [jP];exact hc _ _ ((hg r hr).trans hu)
 exact ⟨b,off,hA,hlt,hx 0 _ (by omega) rfl,hx 1 _ (by omega) rfl,hx 2 _ (by omega) rfl,hx 3 _ (by omega) rfl,hx 4 _ (by omega) rfl,hx 5 _ (by omega) rfl⟩
end Go.Proofs.Yticieifacalocaa
