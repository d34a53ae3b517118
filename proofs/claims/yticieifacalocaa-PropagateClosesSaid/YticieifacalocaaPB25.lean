/- Same SolPrpN Make Neg Cycle Cyclic Resolve Derive -/
import Derived.Test.YticieifacalocaaPB1
import Derived.Test.YticieifacalocaaPB23
import Derived.Test.YticieifacalocaaPB3
import Derived.Laws.MakeOwn
import Derived.Laws.OwnMore
import Derived.Test.YticieifacalocaaPB5
import Derived.Test.YticieifacalocaaPB7
import Derived.Deep.DeepCutAuto
import Derived.Maps.AppendAt
import Derived.IntWalk
import Derived.Test.YticieifacalocaaPB15
import Derived.Test.YticieifacalocaaPB2
import Derived.Laws.CopyOwn
import Derived.Deep.RegionLaw
namespace Go.Proofs.Yticieifacalocaa
open Go.RowKit
set_option maxHeartbeats 400000 in
theorem same_any (a b:Value) (xs ys:List Int) (w:World) (ha:Ints w a xs) (hb:Ints w b ys) :
  Calls Try.prog 27 #[a,b] w fun e w'=>e = .returned (.bool (decide (xs=ys)))∧∃n,w'=w.drewN n:=by
 obtain ⟨A,c,rfl,hl,hm,hx,hr⟩:=ha
 obtain ⟨A',c',rfl,hl',hm',hx',hr'⟩:=hb
 unfold maxLen at hm hm'
 by_cases hlen:xs.length=ys.length
 ·have hne:((xs.length:Int) != (ys.length:Int))=false:=by simp;omega
  have HX:=Lib.hid hx
  have HX':=Lib.hid hx'
  have HR:=Lib.hid hr
  have HR':=Lib.hid hr'
  have HL:=Lib.hid hlen
  clear hx hx' hr hr' hlen
  go_enter Try.func27,Try.ntmps27
  go_wp2
  go_loopw [13] (fun i wr=>∃k n,k≤xs.length∧i = .int .i64 (k:Nat)∧xs.take k=ys.take k∧wr=w.drewN n) (fun i _=>xs.length-(intOf i).toNat)
  case atStart=>exact ⟨0,0,by omega,rfl,by simp,rfl⟩
  case round =>
   obtain ⟨k,n,hk,rfl,heq,rfl⟩:=hrel
   have HE:=Lib.hid heq
   clear heq
   by_cases hlt:k<xs.length
   ·obtain ⟨x,hxk⟩:∃x,xs[k]? = some x:=⟨_,List.getElem?_eq_getElem hlt⟩
    obtain ⟨y,hyk⟩:∃y,ys[k]? = some y:=⟨_,List.getElem?_eq_getElem (by have:=HL.out;omega)⟩
    obtain ⟨b1,o1,rfl,hb1,hc1⟩:=HR.out.int hxk
    obtain ⟨b2,o2,rfl,hb2,hc2⟩:=HR'.out.int hyk
    have HXK:=Lib.hid hxk
    have HYK:=Lib.hid hyk
    clear hxk hyk
    have hlt2:k<ys.length:=by have:=HL.out;omega
    by_cases hxy:x=y
    ·subst hxy
     go_wp2
     go_quiet (fail)
     go_wp2
     go_roundw
     case rel=>exact ⟨k+1,_,by omega,by go_num,by rw [take_succ_of HXK.out,take_succ_of HYK.out,HE.out],rfl⟩
     case measure=>simp [intOf];omega
    ·have hbe:(x != y)=true:=by simpa using hxy
     have HD:Hid (decide (xs=ys)=false):=by
      refine decide_eq_false fun h => ?_
      subst h
      have h1:=HXK.out
      rw [HYK.out] at h1
      exact hxy (by injection h1 with h1;exact h1.symm)
     clear hxy
     go_wp2
     go_quiet (fail)
     go_wp2
     go_ret
     exact ⟨by rw [HD.out];rfl,_,World.drewN_drewN _ _ _⟩
   ·have HD:Hid (decide (xs=ys)=true):=by
     refine decide_eq_true ?_
     have h1:=HE.out
     have h2:=HL.out
     rwa [List.take_of_length_le (by omega),List.take_of_length_le (by omega)] at h1
    go_wp2
    go_ret
    exact ⟨by rw [HD.out];rfl,_,rfl⟩
 ·have hd:decide (xs=ys)=false:=by simp;intro h;exact hlen (by rw [h])
  rw [hd]
  clear hx hx' hr hr'
  have hne:((xs.length:Int) != (ys.length:Int))=true:=by simp;omega
  go_enter Try.func27,Try.ntmps27
  go_wp2
  go_ret
  exact ⟨rfl,0,rfl⟩
end Go.Proofs.Yticieifacalocaa
namespace Go.Proofs.Yticieifacalocaa
open Go.RowKit
end Go.Proofs.Yticieifacalocaa
namespace Go.Proofs.Yticieifacalocaa
open Go.RowKit
def pad {α:Type} (z:α) (n:Nat) (ys:List α):List α:=ys++List.replicate (n-ys.length) z
section
variable {α:Type} {z x:α} {n:Nat} {ys:List α}
theorem pad_full (h:ys.length=n):pad z n ys=ys:=by simp [pad,h]
theorem pad_set (h:ys.length<n) {k:Nat} (hk:ys.length=k):(pad z n ys).set k x=pad z n (ys++[x]):=by
 subst hk
 obtain ⟨m,hm⟩:∃m,n-ys.length=m+1:=⟨n-ys.length-1,by omega⟩
 have hm2:n-(ys.length+1)=m:=by omega
 simp [pad,hm,hm2,List.replicate_succ]
theorem pad_at {k:Nat} (h:k<n) (hk:ys.length≤k):(pad z n ys)[k]? = some z:=by
 rw [pad,List.getElem?_append_right hk,List.getElem?_replicate,if_pos (by omega)]
end
def rowI (xs:List Int):Array Value:=(xs.map (Value.int .i64)).toArray
def rowB (xs:List Bool):Array Value:=(xs.map Value.bool).toArray
def rowD (ds:List Diff):Array Value:=(ds.flatMap Diff.cells).toArray
section
variable {w:World} {g k:Nat} {t:TypeId} {xs:List Int} {bs:List Bool} {ds:List Diff}
theorem rowI_at {x:Int} (h:xs[k]? = some x):(rowI xs)[k]? = some (.int .i64 x):=by simp [rowI,h]
theorem Blk.setI (h:Blk w g t (rowI xs)) (k:Nat) (x:Int):Blk (w.setCell ⟨g,k,none⟩ (.int .i64 x)) g t (rowI (xs.set k x)):=by
 have:=h.set_ k (.int .i64 x)
 rwa [show (rowI xs).setIfInBounds k (.int .i64 x)=rowI (xs.set k x) by simp [rowI]] at this
theorem Blk.setB (h:Blk w g t (rowB bs)) (k:Nat) (x:Bool):Blk (w.setCell ⟨g,k,none⟩ (.bool x)) g t (rowB (bs.set k x)):=by
 have:=h.set_ k (.bool x)
 rwa [show (rowB bs).setIfInBounds k (.bool x)=rowB (bs.set k x) by simp [rowB]] at this
theorem flat_setD (ds:List Diff) (k:Nat) (d:Diff):(((ds.flatMap Diff.cells).set (k * 3) (.int .i64 d.x)).set (k * 3+1) (.int .i64 d.y)).set (k * 3+2) (.int .i64 d.c)=(ds.set k d).flatMap Diff.cells:=by
 induction ds generalizing k with
 | nil=>simp
 | cons e r ih =>
  cases k with
  | zero=>simp [Diff.cells]
  | succ k =>
   have h:=ih k
   simp only [List.flatMap_cons,List.set_cons_succ]
   have a1:∀(t:List Value) (j:Nat) (v:Value),3≤j→(e.cells++t).set j v=e.cells++t.set (j-3) v:=by
    intro t j v hj
    have hl:e.cells.length=3:=rfl
    rw [List.set_append,if_neg (by omega),hl]
   rw [a1 _ _ _ (by omega),a1 _ _ _ (by omega),a1 _ _ _ (by omega),show (k+1) * 3-3=k * 3 by omega,show (k+1) * 3+1-3=k * 3+1 by omega,show (k+1) * 3+2-3=k * 3+2 by omega,h]
theorem Blk.setD (h:Blk w g t (rowD ds)) (k:Nat) (d:Diff):Blk (((w.setCell ⟨g,k * 3,none⟩ (.int .i64 d.x)).setCell ⟨g,k * 3+1,none⟩ (.int .i64 d.y)).setCell ⟨g,k * 3+2,none⟩ (.int .i64 d.c)) g t (rowD (ds.set k d)):=by
 have:=((h.set_ (k * 3) (.int .i64 d.x)).set_ (k * 3+1) (.int .i64 d.y)).set_ (k * 3+2) (.int .i64 d.c)
 rwa [show (((rowD ds).setIfInBounds (k * 3) (.int .i64 d.x)).setIfInBounds (k * 3+1) (.int .i64 d.y)).setIfInBounds (k * 3+2) (.int .i64 d.c)=rowD (ds.set k d) by simp [rowD,flat_setD]] at this
theorem Blk.rd (h:Blk w g t (xs.map (Value.int .i64)).toArray) (hx:∀x∈xs,I64 x) (hl:xs.length≤maxLen):Ints w (.slice (some ⟨g,0,none⟩) xs.length xs.length) xs :=
 ⟨_,_,rfl,Nat.le_refl _,hl,hx,fun _=>⟨g,0,rfl,h.lt,fun j u hu=>by rw [Nat.zero_add,h.cell j,List.getElem?_toArray];exact hu⟩⟩
theorem Blk.ints (h:Blk w g t (rowI xs)) (hx:∀x∈xs,I64 x) (hl:xs.length≤maxLen):Ints w (.slice (some ⟨g,0,none⟩) xs.length xs.length) xs:=Blk.rd h hx hl
theorem Blk.bools (h:Blk w g t (rowB bs)) (hl:bs.length≤maxLen):Bools w (.slice (some ⟨g,0,none⟩) bs.length bs.length) bs :=
 ⟨_,_,rfl,Nat.le_refl _,hl,fun _=>⟨g,0,rfl,h.lt,fun j u hu=>by rw [Nat.zero_add,h.cell j,rowB,List.getElem?_toArray];exact hu⟩⟩
theorem Blk.diffs (h:Blk w g t (rowD ds)) (hx:∀d∈ds,d.ok) (hl:ds.length≤maxLen):Diffs w (.slice (some ⟨g,0,none⟩) ds.length ds.length) ds :=
 ⟨_,_,rfl,Nat.le_refl _,hl,hx,fun _=>⟨g,0,rfl,h.lt,fun j u hu=>by rw [Nat.zero_add,h.cell j,rowD,List.getElem?_toArray];exact hu⟩⟩
end
theorem made_zero (zs:Array Value) (z:Value) (n:Nat) (h0:0<zs.size) (h:∀i,i<zs.size→zs[i]! = z):madeCells zs n=(List.replicate n z).toArray:=by
 apply Array.ext
 ·simp [madeCells]
 ·intro i h1 h2
  simp only [madeCells,Array.getElem_map,Array.getElem_range]
  rw [h _ (Nat.mod_lt _ h0)]
  simp
theorem run_make_n {P:Program} (t e:TypeId) (i:TypeInfo) (z:Value) (ht:P.underlying t=some (.slice e)) (hi:P.info? e=some i) (hz:i.zero=some z)
  (n:Nat) (hbytes:i.bytes * n≤281474976710656) (h63:n≤9223372036854775807) (w:World) :
  (Instr.makeSlice t (.int .i64 (n:Int)) (.int .i64 (n:Int))).run P w = .ok (.slice (some ⟨w.heap.size,0,none⟩) n n) (w.alloc (.cells (madeCells z.cells (n * i.size)) e)):=by
 have hb:(i.bytes:Int) * (n:Int)≤281474976710656:=by
  have h:((i.bytes * n:Nat):Int)≤281474976710656:=by omega
  rwa [Int.natCast_mul] at h
 have hr:=run_make (P:=P) w t e i z ht hi hz .i64 .i64 n n (by omega) (by omega) hb (by omega)
 simp only [Int.toNat_natCast] at hr
 exact hr
theorem info_bool:(Try.prog.info? 4).map (fun i=>(i.zero,i.size,i.bytes))=some (some (.bool false),1,1):=by kernel_rfl
theorem zero_i:∀i,i<(Value.int .i64 0).cells.size→(Value.int .i64 0).cells[i]! = .int .i64 0:=fun i hi=>by
 have hi':i<1:=hi
 obtain rfl:i=0:=by omega
 rfl
theorem zero_b:∀i,i<(Value.bool false).cells.size→(Value.bool false).cells[i]! = .bool false:=fun i hi=>by
 have hi':i<1:=hi
 obtain rfl:i=0:=by omega
 rfl
theorem mk_ints (n:Nat) (h:n≤1000000) (w:World):(Instr.makeSlice 33 (.int .i64 (n:Int)) (.int .i64 (n:Int))).run Try.prog w = .ok (.slice (some ⟨w.heap.size,0,none⟩) n n) (w.alloc (.cells (rowI (List.replicate n 0)) 3)):=by
 obtain ⟨i,hi,h0,h1,h2⟩:=info_parts info_int
 rw [run_make_n _ _ i _ Try.underlying33 hi h0 n (by rw [h2];omega) (by omega) w,h1,made_zero _ (.int .i64 0) _ (by decide) zero_i,Nat.mul_one]
 simp [rowI]
end Go.Proofs.Yticieifacalocaa
namespace Go.Proofs.Yticieifacalocaa
open Go.RowKit
structure NS (w wr:World) (gx gb:Nat) (xs bs:List Int):Prop where
 x:Blk wr gx 3 (rowI xs)
 b:Blk wr gb 3 (rowI bs)
 ne:gx≠gb
 lx:w.heap.size≤gx
 lb:w.heap.size≤gb
 bl:Below w.heap.size w wr
section
variable {w wr w':World} {gx gb:Nat} {xs bs:List Int}
theorem NS.keep (h:NS w wr gx gb xs bs) (hb:Below wr.heap.size wr w'):NS w w' gx gb xs bs :=
 ⟨h.x.keep hb,h.b.keep hb,h.ne,h.lx,h.lb,h.bl.trans (hb.mono h.bl.size)⟩
theorem NS.setX (h:NS w wr gx gb xs bs) (k:Nat) (a:Int):NS w (wr.setCell ⟨gx,k,none⟩ (.int .i64 a)) gx gb (xs.set k a) bs :=
 ⟨h.x.setI k a,h.b.grown (grownBy_set0 _ _ _ _) (by have:=h.ne;simp;omega),h.ne,h.lx,h.lb,h.bl.grown (grownBy_set0 _ _ _ _) h.bl.size fun g e=>by have:=h.lx;injection e with e;omega⟩
theorem NS.setB (h:NS w wr gx gb xs bs) (k:Nat) (a:Int):NS w (wr.setCell ⟨gb,k,none⟩ (.int .i64 a)) gx gb xs (bs.set k a) :=
 ⟨h.x.grown (grownBy_set0 _ _ _ _) (by have:=h.ne;simp;omega),h.b.setI k a,h.ne,h.lx,h.lb,h.bl.grown (grownBy_set0 _ _ _ _) h.bl.size fun g e=>by have:=h.lb;injection e with e;omega⟩
theorem NS.two (n:Nat) (a b:List Int):NS w (((w.alloc (.cells (rowI a) 3)).alloc (.cells (rowI b) 3)).drewN n) w.heap.size (w.heap.size+1) a b:=by
 have h0:=Blk.new w 3 (rowI a)
 have h1:=Blk.new (w.alloc (.cells (rowI a) 3)) 3 (rowI b)
 have hs:(w.alloc (.cells (rowI a) 3)).heap.size=w.heap.size+1:=by simp
 rw [hs] at h1
 exact ⟨(h0.alloc _).drewN n,h1.drewN n,by omega,by omega,by omega,bdrew (((Below.refl _ _).alloc (Nat.le_refl _) _).alloc (by rw [hs];omega) _) n⟩
theorem NS.drewN (h:NS w wr gx gb xs bs) (n:Nat):NS w (wr.drewN n) gx gb xs bs:=⟨h.x.drewN n,h.b.drewN n,h.ne,h.lx,h.lb,bdrew h.bl n⟩
theorem NS.swap (h:NS w wr gx gb xs bs):NS w wr gb gx bs xs:=⟨h.b,h.x,h.ne.symm,h.lb,h.lx,h.bl⟩
end
def Round (n:Nat) (M:Int) (l:List Diff) (r:Nat) (xs bs:List Int) (la:Int):Prop :=
 (r=0∧Bell n M l 0 0 xs bs (-1))∨∃q,r=q+1∧Bell n M l q l.length xs bs la∧0≤la
theorem Round.go {n:Nat} {M:Int} {l:List Diff} {r:Nat} {xs bs:List Int} {la:Int} (h:Round n M l r xs bs la):Bell n M l r 0 xs bs (-1):=by
 rcases h with ⟨rfl,h⟩|⟨q,rfl,h,_⟩
 ·exact h
 ·exact h.next
def ksN (bs:List Int) (p:Nat→Int) (n m:Nat):List Nat:=(List.range m).map fun i=>(gi bs (p (n+i))).toNat
theorem ksN_succ (bs:List Int) (p:Nat→Int) (n m:Nat):ksN bs p n (m+1)=ksN bs p n m++[(gi bs (p (n+m))).toNat]:=by
 unfold ksN;rw [List.range_succ,List.map_append];rfl
theorem ksN_sum (l:List Diff) (bs:List Int) (p:Nat→Int) (n m:Nat):csum ((ksN bs p n m).map fun k=>l.getD k ⟨0,0,0⟩)=wsum l bs p n m:=by
 induction m with
 | zero=>rfl
 | succ m ih =>
  rw [ksN_succ,List.map_append,wsum,←ih]
  unfold csum
  rw [List.map_append,List.sum_append,List.getD_eq_getElem?_getD.symm]
  simp
theorem cyc_of_way {n d:Nat} {l:List Diff} {bs:List Int} {p:Nat→Int} (hw:Way n l bs p) (d0:0<d) (d2:p (n+d)=p n) (d4:wsum l bs p n d<0) :
  (∀k∈ksN bs p n d,k<l.length)∧Cyc ((ksN bs p n d).map fun k=>l.getD k ⟨0,0,0⟩):=by
 have hk:∀i,∃e:Diff,l[(gi bs (p (n+i))).toNat]? = some e∧e.x=p (n+i)∧e.y=p (n+i+1):=by
  intro i
  obtain ⟨_,_,k,e,h1,h2,h3,h4⟩:=hw (n+i)
  exact ⟨e,by rw [h1,Int.toNat_natCast];exact h2,h3,h4⟩
 have hat:∀i,i<d→∃e:Diff,((ksN bs p n d).map fun k=>l.getD k ⟨0,0,0⟩)[i]? = some e∧e.x=p (n+i)∧e.y=p (n+i+1):=by
  intro i hi
  obtain ⟨e,h1,h2,h3⟩:=hk i
  refine ⟨e,?_,h2,h3⟩
  unfold ksN
  rw [List.getElem?_map,List.getElem?_map,List.getElem?_range hi]
  simp [h1]
 have hlen:((ksN bs p n d).map fun k=>l.getD k ⟨0,0,0⟩).length=d:=by simp [ksN]
 refine ⟨fun k hm => ?_,by rw [hlen];exact d0,?_,by rw [ksN_sum];exact d4⟩
 ·unfold ksN at hm
  obtain ⟨i,_,rfl⟩:=List.mem_map.1 hm
  obtain ⟨e,h1,_⟩:=hk i
  exact (List.getElem?_eq_some_iff.1 h1).1
 ·intro i a b hi ha hb
  rw [hlen] at hi hb
  obtain ⟨e,h1,h2,h3⟩:=hat i hi
  rw [h1] at ha;injection ha with ha;subst ha
  rw [h3]
  by_cases hlt:i+1<d
  ·rw [Nat.mod_eq_of_lt hlt] at hb
   obtain ⟨e2,g1,g2,_⟩:=hat (i+1) hlt
   rw [g1] at hb;injection hb with hb;subst hb
   rw [g2,Nat.add_assoc]
  ·have:i+1=d:=by omega
   rw [this,Nat.mod_self] at hb
   obtain ⟨e2,g1,g2,_⟩:=hat 0 d0
   rw [g1] at hb;injection hb with hb;subst hb
   rw [g2,Nat.add_assoc,this,d2];rfl
end Go.Proofs.Yticieifacalocaa
namespace Go.Proofs.Yticieifacalocaa
open Go.RowKit
def idx (n:Nat):List Int:=(List.range n).map (fun i:Nat=>(i:Int))
theorem idx_len (n:Nat):(idx n).length=n:=by simp [idx]
theorem idx_succ (n:Nat):idx (n+1)=idx n++[(n:Int)]:=by simp [idx,List.range_succ]
end Go.Proofs.Yticieifacalocaa
namespace Go.Proofs.Yticieifacalocaa
open Go.RowKit
def ClRet (w:World) (r:Option (List Int)) (e:Ending) (w':World):Prop :=
 ∃v,e = .returned (.tuple #[v, .bool r.isSome])∧Own w' w.heap.size v (r.getD [])∧Below w.heap.size w w'
theorem ClRet.no {w w':World} {r:Option (List Int)} (h:r=none) (hb:Below w.heap.size w w'):ClRet w r (.returned (.tuple #[.slice none 0 0, .bool false])) w':=by
 subst h
 exact ⟨_,rfl,⟨World.ownsRow_nil _ _ _ _,by simp⟩,hb⟩
theorem NormRet.cl {w W w':World} {xs:List Int} {r:Option (List Int)} {e:Ending} (h:NormRet W xs e w') (hr:r=norm xs) (hb:Below w.heap.size w W):ClRet w r e w':=by
 obtain ⟨v,he,⟨h1,h2⟩,h3⟩:=h
 subst hr
 exact ⟨v,he,⟨owns_base h1 hb.size,h2⟩,hb.trans (h3.mono hb.size)⟩
structure CS (w wr:World) (g1 g2 g3 n:Nat) (fv:Array Value) (ds:List Diff) (lits:List Int) (k:Nat):Prop where
 b0:Blk wr w.heap.size 29 fv
 b1:Blk wr g1 50 (rowD (pad ⟨0,0,0⟩ n ds))
 b2:Blk wr g2 3 (rowI (pad 0 n (idx k)))
 b3:Blk wr g3 3 (rowI (pad 0 n ((lits.take k).map (fun x => -x))))
 bl:Below w.heap.size w wr
theorem CS.keep {w wr w':World} {g1 g2 g3 n:Nat} {fv:Array Value} {ds:List Diff} {lits:List Int} {k:Nat} (h:CS w wr g1 g2 g3 n fv ds lits k) (hb:Below wr.heap.size wr w'):CS w w' g1 g2 g3 n fv ds lits k :=
 ⟨h.b0.keep hb,h.b1.keep hb,h.b2.keep hb,h.b3.keep hb,h.bl.trans (hb.mono h.bl.size)⟩
theorem CS.put {w wr:World} {n:Nat} {fv:Array Value} {ds:List Diff} {lits:List Int} {k:Nat} {x:Int} {d:Diff} (h:CS w wr (w.heap.size+1) (w.heap.size+1+1) (w.heap.size+1+1+1) n fv ds lits k) (hx:lits[k]? = some x) (hd:ds.length=k) (hk:k<n) :
  CS w (((((wr.setCell ⟨w.heap.size+1,k * 3,none⟩ (.int .i64 d.x)).setCell ⟨w.heap.size+1,k * 3+1,none⟩ (.int .i64 d.y)).setCell ⟨w.heap.size+1,k * 3+2,none⟩ (.int .i64 d.c)).setCell ⟨w.heap.size+1+1,k,none⟩ (.int .i64 (k:Int))).setCell ⟨w.heap.size+1+1+1,k,none⟩ (.int .i64 (-x)))
   (w.heap.size+1) (w.heap.size+1+1) (w.heap.size+1+1+1) n fv (ds++[d]) lits (k+1):=by
 have hlt:k<lits.length:=(List.getElem?_eq_some_iff.1 hx).1
 refine ⟨?_,?_,?_,?_,?_⟩
 ·exact ((((h.b0.far (by simp) _).far (by simp) _).far (by simp) _).far (by simp;omega) _).far (by simp;omega) _
 ·rw [←pad_set (x:=d) (by omega) hd]
  exact ((h.b1.setD k d).far (by simp) _).far (by simp) _
 ·rw [idx_succ,←pad_set (x:=(k:Int)) (by rw [idx_len];omega) (idx_len k)]
  exact ((((h.b2.far (by simp) _).far (by simp) _).far (by simp) _).setI k k).far (by simp) _
 ·rw [take_succ_of hx,List.map_append,List.map_cons,List.map_nil,←pad_set (x := -x) (k:=k) (by simp;omega) (by simp;omega)]
  exact ((((h.b3.far (by simp;omega) _).far (by simp;omega) _).far (by simp;omega) _).far (by simp) _).setI k (-x)
 ·exact ((((h.bl.setCell (by simp) _).setCell (by simp) _).setCell (by simp) _).setCell (by simp;omega) _).setCell (by simp;omega) _
end Go.Proofs.Yticieifacalocaa
namespace Go.Proofs.Yticieifacalocaa
open Go.RowKit
def IsStp (w:World) (v:Value) (s:Stp):Prop :=
 ∃lv,v = .agg #[.int .i64 s.kind, .int .i64 s.index,lv, .int .i64 s.p, .int .i64 s.q, .int .i64 s.var]∧Ints w lv s.lits∧I64 s.kind∧I64 s.index∧I64 s.p∧I64 s.q∧I64 s.var
theorem IsStp.keep {w w':World} {v:Value} {s:Stp} (h:IsStp w v s) (hb:Below w.heap.size w w'):IsStp w' v s:=by
 obtain ⟨lv,h1,h2,h3⟩:=h
 exact ⟨lv,h1,h2.keep hb,h3⟩
end Go.Proofs.Yticieifacalocaa
namespace Go.Proofs.Yticieifacalocaa
open Go.RowKit
def OkCl (c:List Int):Prop:=Up c∧∀x∈c,x≠0 ∧ -1024≤x∧x≤1024
theorem up_len {l:List Int} {a:Nat} {M:Nat} (h:Up l) (hx:∀x∈l,a<x.natAbs∧x.natAbs≤M):l.length+a≤M∨l=[]:=by
 induction l generalizing a with
 | nil=>exact .inr rfl
 | cons x r ih =>
  left
  obtain ⟨h1,h2⟩:=List.pairwise_cons.1 h
  have hx0:=hx x (by simp)
  rcases ih (a:=x.natAbs) h2 (fun y hy=>⟨h1 y hy,(hx y (by simp [hy])).2⟩) with h3|h3
  ·rw [List.length_cons];omega
  ·subst h3;simp;omega
theorem OkCl.len {c:List Int} (h:OkCl c):c.length≤1024:=by
 rcases up_len (a:=0) (M:=1024) h.1 (fun x hx=>by have:=h.2 x hx;omega) with h1|h1
 ·omega
 ·subst h1;simp
def Stp.cells (p:Stp × Value):List Value:=[.int .i64 p.1.kind, .int .i64 p.1.index,p.2, .int .i64 p.1.p, .int .i64 p.1.q, .int .i64 p.1.var]
def Stp.val (s:Stp) (lv:Value):Value := .agg #[.int .i64 s.kind, .int .i64 s.index,lv, .int .i64 s.p, .int .i64 s.q, .int .i64 s.var]
def Stp.ok (s:Stp):Prop:=I64 s.kind∧I64 s.index∧I64 s.p∧I64 s.q∧I64 s.var
def Stps (w:World) (v:Value) (l:List Stp):Prop :=
 ∃(A:Option Addr) (c:Nat) (ps:List (Stp × Value)),l=ps.map (·.1)∧v = .slice A ps.length c∧ps.length≤c∧c≤maxLen∧Rd w A (ps.flatMap Stp.cells)∧∀p∈ps,Ints w p.2 p.1.lits∧p.1.ok
theorem Stps.keep {w w':World} {v:Value} {l:List Stp} (h:Stps w v l) (hb:Below w.heap.size w w'):Stps w' v l:=by
 obtain ⟨A,c,ps,h1,h2,h3,h4,h5,h6⟩:=h
 exact ⟨A,c,ps,h1,h2,h3,h4,h5.keep hb,fun p hp=>⟨(h6 p hp).1.keep hb,(h6 p hp).2⟩⟩
theorem flat_get {α β:Type} {xs:List α} {g:α→List β} {m:Nat} (hg:∀a,(g a).length=m) {k r:Nat} {a:α} (h:xs[k]? = some a) (hr:r<m):(xs.flatMap g)[k * m+r]? = (g a)[r]? := by
 induction xs generalizing k with
 | nil=>simp at h
 | cons x t ih =>
  cases k with
  | zero=>simp at h;subst h;rw [List.flatMap_cons,Nat.zero_mul,Nat.zero_add,List.getElem?_append_left (by rw [hg];exact hr)]
  | succ k =>
   rw [List.flatMap_cons,List.getElem?_append_right (by rw [hg,Nat.succ_mul];omega),hg,show (k+1) * m+r-m=k * m+r by rw [Nat.succ_mul];omega]
   exact ih (by simpa using h)
theorem Stps.at_ {w:World} {A:Option Addr} {ps:List (Stp × Value)} (h:Rd w A (ps.flatMap Stp.cells)) {k:Nat} {p:Stp × Value} (hk:ps[k]? = some p) :
  ∃b off,A=some ⟨b,off,none⟩∧b<w.heap.size∧w.cell? ⟨b,off+k * 6,none⟩=some (.int .i64 p.1.kind)∧w.cell? ⟨b,off+k * 6+1,none⟩=some (.int .i64 p.1.index)∧w.cell? ⟨b,off+k * 6+2,none⟩=some p.2 ∧
   w.cell? ⟨b,off+k * 6+3,none⟩=some (.int .i64 p.1.p)∧w.cell? ⟨b,off+k * 6+4,none⟩=some (.int .i64 p.1.q)∧w.cell? ⟨b,off+k * 6+5,none⟩=some (.int .i64 p.1.var):=by
 have hg:∀r,r<6→(ps.flatMap Stp.cells)[k * 6+r]? = (Stp.cells p)[r]? := fun r hr=>flat_get (g:=Stp.cells) (m:=6) (fun _=>rfl) hk hr
 obtain ⟨b,off,hA,hlt,hc⟩:=h (by have:=(List.getElem?_eq_some_iff.1 ((hg 0 (by omega)).trans (show (Stp.cells p)[0]? = some _ from rfl))).1;omega)
 have hx:∀r u,r<6→(Stp.cells p)[r]? = some u→w.cell? ⟨b,off+k * 6+r,none⟩=some u:=fun r u hr hu=>by
  rw [Nat.add_assoc];exact hc _ _ ((hg r hr).trans hu)
 exact ⟨b,off,hA,hlt,hx 0 _ (by omega) rfl,hx 1 _ (by omega) rfl,hx 2 _ (by omega) rfl,hx 3 _ (by omega) rfl,hx 4 _ (by omega) rfl,hx 5 _ (by omega) rfl⟩
theorem ClRet.up {w W w':World} {r r':Option (List Int)} {e:Ending} (h:ClRet W r' e w') (hr:r=r') (hb:Below w.heap.size w W):ClRet w r e w':=by
 obtain ⟨v,he,⟨h1,h2⟩,h3⟩:=h
 subst hr
 exact ⟨v,he,⟨owns_base h1 hb.size,h2⟩,hb.trans (h3.mono hb.size)⟩
end Go.Proofs.Yticieifacalocaa
