/- Same Make Neg Cycle Cyclic -/
import Derived.Laws.MakeOwn
import Derived.Deep.DeepCutAuto
import Derived.Test.YticieifacalocaaTSC12
import Derived.Test.YticieifacalocaaTSC18
namespace Go.Proofs.Yticieifacalocaa
open Go.RowKit
set_option maxHeartbeats 400000 in
theorem same_any (a b:Value) (xs ys:List Int) (w:World) (ha:Ints w a xs) (hb:Ints w b ys) :
  Calls Try.prog 27 #[a,b] w fun e w'=>e = .returned (.bool (decide (xs=ys)))∧∃n,w'=w.drewN n:=by
 obtain ⟨A,c,rfl,hl,hm,hx,hr⟩:=ha
 obtain ⟨A',c',rfl,hl',hm',hx',hr'⟩:=hb
 unfold maxLen at hm hm'
 by_cases hlen:xs.length=ys.length
 ·have hne:((xs.length:Int) != (ys.length:Int))=false:=by simp;omega
  have HX:=Lib.hid hx
  have HX':=Lib.hid hx'
  have HR:=Lib.hid hr
  have HR':=Lib.hid hr'
  have HL:=Lib.hid hlen
  clear hx hx' hr hr' hlen
  go_enter Try.func27,Try.ntmps27
  go_wp2
  go_loopw [13] (fun i wr=>∃k n,k≤xs.length∧i = .int .i64 (k:Nat)∧xs.take k=ys.take k∧wr=w.drewN n) (fun i _=>xs.length-(intOf i).toNat)
  case atStart=>exact ⟨0,0,by omega,rfl,by simp,rfl⟩
  case round =>
   obtain ⟨k,n,hk,rfl,heq,rfl⟩:=hrel
   have HE:=Lib.hid heq
   clear heq
   by_cases hlt:k<xs.length
   ·obtain ⟨x,hxk⟩:∃x,xs[k]? = some x:=⟨_,List.getElem?_eq_getElem hlt⟩
    obtain ⟨y,hyk⟩:∃y,ys[k]? = some y:=⟨_,List.getElem?_eq_getElem (by have:=HL.out;omega)⟩
    obtain ⟨b1,o1,rfl,hb1,hc1⟩:=HR.out.int hxk
    obtain ⟨b2,o2,rfl,hb2,hc2⟩:=HR'.out.int hyk
    have HXK:=Lib.hid hxk
    have HYK:=Lib.hid hyk
    clear hxk hyk
    have hlt2:k<ys.length:=by have:=HL.out;omega
    by_cases hxy:x=y
    ·subst hxy
     go_wp2
     go_quiet (fail)
     go_wp2
     go_roundw
     case rel=>exact ⟨k+1,_,by omega,by go_num,by rw [gC HXK.out,gC HYK.out,HE.out],rfl⟩
     case measure=>simp [intOf];omega
    ·have hbe:(x != y)=true:=by simpa using hxy
     have HD:Hid (decide (xs=ys)=false):=by
      refine decide_eq_false fun h => ?_
      subst h
      have h1:=HXK.out
      rw [HYK.out] at h1
      exact hxy (by injection h1 with h1;exact h1.symm)
     clear hxy
     go_wp2
     go_quiet (fail)
     go_wp2
     go_ret
     exact ⟨by rw [HD.out];rfl,_,kT _ _ _⟩
   ·have HD:Hid (decide (xs=ys)=true):=by
     refine decide_eq_true ?_
     have h1:=HE.out
     have h2:=HL.out
     rwa [zV (by omega),zV (by omega)] at h1
    go_wp2
    go_ret
    exact ⟨by rw [HD.out];rfl,_,rfl⟩
 ·have hd:decide (xs=ys)=false:=by simp;intro h;exact hlen (by rw [h])
  rw [hd]
  clear hx hx' hr hr'
  have hne:((xs.length:Int) != (ys.length:Int))=true:=by simp;omega
  go_enter Try.func27,Try.ntmps27
  go_wp2
  go_ret
  exact ⟨rfl,0,rfl⟩
def aH {α:Type} (z:α) (n:Nat) (ys:List α):List α:=ys++List.replicate (n-ys.length) z
section
variable {α:Type} {z x:α} {n:Nat} {ys:List α}
theorem pad_nil:aH z n []=List.replicate n z:=by simp [aH]
theorem pO (h:ys.length≤n):(aH z n ys).length=n:=by simp [aH];omega
theorem eQ (h:ys.length=n):aH z n ys=ys:=by simp [aH,h]
theorem mD (h:ys.length<n) {k:Nat} (hk:ys.length=k):(aH z n ys).set k x=aH z n (ys++[x]):=by
 subst hk
 obtain ⟨m,hm⟩:∃m,n-ys.length=m+1:=⟨n-ys.length-1,by omega⟩
 have hm2:n-(ys.length+1)=m:=by omega
 simp [aH,hm,hm2,List.replicate_succ]
theorem pQ {k:Nat} (h:k<n) (hk:ys.length≤k):(aH z n ys)[k]? = some z:=by
 rw [aH,zL hk,List.getElem?_replicate,if_pos (by omega)]
end
def rowI (xs:List Int):Array Value:=(xs.map (Value.int .i64)).toArray
def lH (xs:List Bool):Array Value:=(xs.map Value.bool).toArray
def rowD (ds:List Diff):Array Value:=(ds.flatMap Diff.cells).toArray
section
variable {w:World} {g k:Nat} {t:TypeId} {xs:List Int} {bs:List Bool} {ds:List Diff}
theorem mI {x:Int} (h:xs[k]? = some x):(rowI xs)[k]? = some (.int .i64 x):=by simp [rowI,h]
theorem fU {x:Bool} (h:bs[k]? = some x):(lH bs)[k]? = some (.bool x):=by simp [lH,h]
theorem Blk.setI (h:Blk w g t (rowI xs)) (k:Nat) (x:Int):Blk (w.setCell ⟨g,k,none⟩ (.int .i64 x)) g t (rowI (xs.set k x)):=by
 have:=h.set_ k (.int .i64 x)
 rwa [show (rowI xs).setIfInBounds k (.int .i64 x)=rowI (xs.set k x) by simp [rowI]] at this
theorem Blk.setB (h:Blk w g t (lH bs)) (k:Nat) (x:Bool):Blk (w.setCell ⟨g,k,none⟩ (.bool x)) g t (lH (bs.set k x)):=by
 have:=h.set_ k (.bool x)
 rwa [show (lH bs).setIfInBounds k (.bool x)=lH (bs.set k x) by simp [lH]] at this
theorem flat_setD (ds:List Diff) (k:Nat) (d:Diff):(((ds.flatMap Diff.cells).set (k * 3) (.int .i64 d.x)).set (k * 3+1) (.int .i64 d.y)).set (k * 3+2) (.int .i64 d.c)=(ds.set k d).flatMap Diff.cells:=by
 induction ds generalizing k with
 | nil=>simp
 | cons e r ih =>
  cases k with
  | zero=>simp [Diff.cells]
  | succ k =>
   have h:=ih k
   simp only [xE,zE]
   have a1:∀(t:List Value) (j:Nat) (v:Value),3≤j→(e.cells++t).set j v=e.cells++t.set (j-3) v:=by
    intro t j v hj
    have hl:e.cells.length=3:=rfl
    rw [uC,if_neg (by omega),hl]
   rw [a1 _ _ _ (by omega),a1 _ _ _ (by omega),a1 _ _ _ (by omega),show (k+1) * 3-3=k * 3 by omega,show (k+1) * 3+1-3=k * 3+1 by omega,show (k+1) * 3+2-3=k * 3+2 by omega,h]
theorem Blk.setD (h:Blk w g t (rowD ds)) (k:Nat) (d:Diff):Blk (((w.setCell ⟨g,k * 3,none⟩ (.int .i64 d.x)).setCell ⟨g,k * 3+1,none⟩ (.int .i64 d.y)).setCell ⟨g,k * 3+2,none⟩ (.int .i64 d.c)) g t (rowD (ds.set k d)):=by
 have:=((h.set_ (k * 3) (.int .i64 d.x)).set_ (k * 3+1) (.int .i64 d.y)).set_ (k * 3+2) (.int .i64 d.c)
 rwa [show (((rowD ds).setIfInBounds (k * 3) (.int .i64 d.x)).setIfInBounds (k * 3+1) (.int .i64 d.y)).setIfInBounds (k * 3+2) (.int .i64 d.c)=rowD (ds.set k d) by simp [rowD,flat_setD]] at this
theorem rowD_at {d:Diff} (h:ds[k]? = some d):(rowD ds)[k * 3]? = some (.int .i64 d.x)∧(rowD ds)[k * 3+1]? = some (.int .i64 d.y)∧(rowD ds)[k * 3+2]? = some (.int .i64 d.c):=by
 simpa [rowD] using flat_at h
theorem Blk.rd (h:Blk w g t (xs.map (Value.int .i64)).toArray) (hx:∀x∈xs,I64 x) (hl:xs.length≤maxLen):Ints w (.slice (some ⟨g,0,none⟩) xs.length xs.length) xs :=
 ⟨_,_,rfl,Nat.le_refl _,hl,hx,fun _=>⟨g,0,rfl,h.lt,fun j u hu=>by rw [Nat.zero_add,h.cell j,zA];exact hu⟩⟩
theorem Blk.ints (h:Blk w g t (rowI xs)) (hx:∀x∈xs,I64 x) (hl:xs.length≤maxLen):Ints w (.slice (some ⟨g,0,none⟩) xs.length xs.length) xs:=Blk.rd h hx hl
theorem Blk.diffs (h:Blk w g t (rowD ds)) (hx:∀d∈ds,d.ok) (hl:ds.length≤maxLen):Diffs w (.slice (some ⟨g,0,none⟩) ds.length ds.length) ds :=
 ⟨_,_,rfl,Nat.le_refl _,hl,hx,fun _=>⟨g,0,rfl,h.lt,fun j u hu=>by rw [Nat.zero_add,h.cell j,rowD,zA];exact hu⟩⟩
end
theorem dZ (zs:Array Value) (z:Value) (n:Nat) (h0:0<zs.size) (h:∀i,i<zs.size→zs[i]! = z):madeCells zs n=(List.replicate n z).toArray:=by
 apply Array.ext
 ·simp [madeCells]
 ·intro i h1 h2
  simp only [madeCells,Array.getElem_map,Array.getElem_range]
  rw [h _ (Nat.mod_lt _ h0)]
  simp
theorem rowD_zero (n:Nat):rowD (List.replicate n ⟨0,0,0⟩)=(List.replicate (n * 3) (Value.int .i64 0)).toArray:=by
 unfold rowD
 congr 1
 induction n with
 | zero=>rfl
 | succ n ih=>rw [qZ,xE,ih,show (n+1) * 3=n * 3+1+1+1 by omega,qZ,qZ,qZ];rfl
theorem dP {P:Program} (t e:TypeId) (i:TypeInfo) (z:Value) (ht:P.underlying t=some (.slice e)) (hi:P.info? e=some i) (hz:i.zero=some z)
  (n:Nat) (hbytes:i.bytes * n≤281474976710656) (h63:n≤9223372036854775807) (w:World) :
  (Instr.makeSlice t (.int .i64 (n:Int)) (.int .i64 (n:Int))).run P w = .ok (.slice (some ⟨w.heap.size,0,none⟩) n n) (w.alloc (.cells (madeCells z.cells (n * i.size)) e)):=by
 have hb:(i.bytes:Int) * (n:Int)≤281474976710656:=by
  have h:((i.bytes * n:Nat):Int)≤281474976710656:=by omega
  rwa [Int.natCast_mul] at h
 have hr:=run_make (P:=P) w t e i z ht hi hz .i64 .i64 n n (by omega) (by omega) hb (by omega)
 simp only [Int.toNat_natCast] at hr
 exact hr
theorem lA:(Try.prog.info? 4).map (fun i=>(i.zero,i.size,i.bytes))=some (some (.bool false),1,1):=by kernel_rfl
theorem zero_i:∀i,i<(Value.int .i64 0).cells.size→(Value.int .i64 0).cells[i]! = .int .i64 0:=fun i hi=>by
 have hi':i<1:=hi
 obtain rfl:i=0:=by omega
 rfl
theorem zero_b:∀i,i<(Value.bool false).cells.size→(Value.bool false).cells[i]! = .bool false:=fun i hi=>by
 have hi':i<1:=hi
 obtain rfl:i=0:=by omega
 rfl
theorem zero_d:∀i,i<(Value.agg #[.int .i64 0, .int .i64 0, .int .i64 0]).cells.size→(Value.agg #[.int .i64 0, .int .i64 0, .int .i64 0]).cells[i]! = .int .i64 0:=fun i hi=>by
 have hi':i<3:=hi
 have:i=0∨i=1∨i=2:=by omega
 rcases this with rfl|rfl|rfl<;>rfl
theorem mH (n:Nat) (h:n≤1000000) (w:World):(Instr.makeSlice 33 (.int .i64 (n:Int)) (.int .i64 (n:Int))).run Try.prog w = .ok (.slice (some ⟨w.heap.size,0,none⟩) n n) (w.alloc (.cells (rowI (List.replicate n 0)) 3)):=by
 obtain ⟨i,hi,h0,h1,h2⟩:=qC gP
 rw [dP _ _ i _ Try.underlying33 hi h0 n (by rw [h2];omega) (by omega) w,h1,dZ _ (.int .i64 0) _ (by decide) zero_i,yC]
 simp [rowI]
theorem mk_diffs (n:Nat) (h:n≤1000000) (w:World):(Instr.makeSlice 26 (.int .i64 (n:Int)) (.int .i64 (n:Int))).run Try.prog w = .ok (.slice (some ⟨w.heap.size,0,none⟩) n n) (w.alloc (.cells (rowD (List.replicate n ⟨0,0,0⟩)) 50)):=by
 obtain ⟨i,hi,h0,h1,h2⟩:=qC eU
 rw [dP _ _ i _ Try.underlying26 hi h0 n (by rw [h2];omega) (by omega) w,h1,dZ _ (.int .i64 0) _ (by decide) zero_d,rowD_zero]
def Round (n:Nat) (M:Int) (l:List Diff) (r:Nat) (xs bs:List Int) (la:Int):Prop :=
 (r=0∧Bell n M l 0 0 xs bs (-1))∨∃q,r=q+1∧Bell n M l q l.length xs bs la∧0≤la
theorem Round.go {n:Nat} {M:Int} {l:List Diff} {r:Nat} {xs bs:List Int} {la:Int} (h:Round n M l r xs bs la):Bell n M l r 0 xs bs (-1):=by
 rcases h with ⟨rfl,h⟩|⟨q,rfl,h,_⟩
 ·exact h
 ·exact h.next
def ksN (bs:List Int) (p:Nat→Int) (n m:Nat):List Nat:=(List.range m).map fun i=>(gi bs (p (n+i))).toNat
theorem ksN_succ (bs:List Int) (p:Nat→Int) (n m:Nat):ksN bs p n (m+1)=ksN bs p n m++[(gi bs (p (n+m))).toNat]:=by
 unfold ksN;rw [List.range_succ,List.map_append];rfl
theorem ksN_sum (l:List Diff) (bs:List Int) (p:Nat→Int) (n m:Nat):csum ((ksN bs p n m).map fun k=>l.getD k ⟨0,0,0⟩)=rG l bs p n m:=by
 induction m with
 | zero=>rfl
 | succ m ih =>
  rw [ksN_succ,List.map_append,rG,←ih]
  unfold csum
  rw [List.map_append,List.sum_append,List.getD_eq_getElem?_getD.symm]
  simp
theorem cyc_of_way {n d:Nat} {l:List Diff} {bs:List Int} {p:Nat→Int} (hw:Way n l bs p) (d0:0<d) (d2:p (n+d)=p n) (d4:rG l bs p n d<0) :
  (∀k∈ksN bs p n d,k<l.length)∧Cyc ((ksN bs p n d).map fun k=>l.getD k ⟨0,0,0⟩):=by
 have hk:∀i,∃e:Diff,l[(gi bs (p (n+i))).toNat]? = some e∧e.x=p (n+i)∧e.y=p (n+i+1):=by
  intro i
  obtain ⟨_,_,k,e,h1,h2,h3,h4⟩:=hw (n+i)
  exact ⟨e,by rw [h1,Int.toNat_natCast];exact h2,h3,h4⟩
 have hat:∀i,i<d→∃e:Diff,((ksN bs p n d).map fun k=>l.getD k ⟨0,0,0⟩)[i]? = some e∧e.x=p (n+i)∧e.y=p (n+i+1):=by
  intro i hi
  obtain ⟨e,h1,h2,h3⟩:=hk i
  refine ⟨e,?_,h2,h3⟩
  unfold ksN
  rw [List.getElem?_map,List.getElem?_map,uF hi]
  simp [h1]
 have hlen:((ksN bs p n d).map fun k=>l.getD k ⟨0,0,0⟩).length=d:=by simp [ksN]
 refine ⟨fun k hm => ?_,by rw [hlen];exact d0,?_,by rw [ksN_sum];exact d4⟩
 ·unfold ksN at hm
  obtain ⟨i,_,rfl⟩:=List.mem_map.1 hm
  obtain ⟨e,h1,_⟩:=hk i
  exact (zG.1 h1).1
 ·intro i a b hi ha hb
  rw [hlen] at hi hb
  obtain ⟨e,h1,h2,h3⟩:=hat i hi
  rw [h1] at ha;injection ha with ha;subst ha
  rw [h3]
  by_cases hlt:i+1<d
  ·rw [uW hlt] at hb
   obtain ⟨e2,g1,g2,_⟩:=hat (i+1) hlt
   rw [g1] at hb;injection hb with hb;subst hb
   rw [g2,vY]
  ·have:i+1=d:=by omega
   rw [this,Nat.mod_self] at hb
   obtain ⟨e2,g1,g2,_⟩:=hat 0 d0
   rw [g1] at hb;injection hb with hb;subst hb
   rw [g2,vY,this,d2];rfl
def rV (n:Nat):List Int:=(List.range n).map (fun i:Nat=>(i:Int))
theorem bD (n:Nat):(rV n).length=n:=by simp [rV]
theorem idx_at {n k:Nat} (h:k<n):(rV n)[k]? = some (k:Int):=by simp [rV,h]
theorem sZ (n:Nat):rV (n+1)=rV n++[(n:Int)]:=by simp [rV,List.range_succ]
theorem oV {ds:List Diff} {k:Nat} {d:Diff} (h:ds[k]? = some d):csum (ds.take (k+1))=csum (ds.take k)+d.c:=by
 rw [gC h];simp [csum]
theorem nE {ds:List Diff} {M:Int} (h:∀d∈ds, -M≤d.c∧d.c≤M) : -(M * ds.length)≤csum ds∧csum ds≤M * ds.length:=by
 induction ds with
 | nil=>simp [csum]
 | cons d r ih =>
  have h1:=h d (by simp)
  have h2:=ih fun e he=>h e (by simp [he])
  have h3:M * ((d::r).length:Int)=M * (r.length:Int)+M:=by rw [qP,Int.natCast_succ,kI,wG]
  simp only [csum,zY,vB] at h2 ⊢
  omega
theorem lY {ds:List Diff} {k:Nat} (h:aV ds k) {a b:Diff} (ha:ds[k]? = some a) (hb:ds[(k+1) % ds.length]? = some b) (e:a.y=b.x):aV ds (k+1):=by
 intro i x y hi hx hy
 by_cases hk:i=k
 ·subst hk
  rw [ha] at hx;rw [hb] at hy
  injection hx with hx;injection hy with hy
  subst hx hy;exact e
 ·exact h i x y (by omega) hx hy
theorem cycB_no {ds:List Diff} {k:Nat} {a b:Diff} (ha:ds[k]? = some a) (hb:ds[(k+1) % ds.length]? = some b) (e:a.y≠b.x):cycB ds=false:=by
 unfold cycB
 simp only [decide_eq_false_iff_not]
 rintro ⟨_,h,_⟩
 exact e (h k a b (zG.1 ha).1 ha hb)
open Classical in
theorem cycB_yes {ds:List Diff} {k:Nat} (h0:0<ds.length) (h:aV ds k) (hk:ds.length≤k):cycB ds=decide (csum (ds.take k)<0):=by
 unfold cycB
 rw [zV hk]
 refine pX ⟨fun h=>h.2.2,fun h'=>⟨h0,fun i a b hi=>h i a b (by omega),h'⟩⟩
def CycRet (w:World) (b:Bool) (e:Ending) (w':World):Prop:=e = .returned (.bool b)∧Below w.heap.size w w'
set_option maxRecDepth 100000 in
set_option maxHeartbeats 2000000 in
theorem fcycle_any (lv cv:Value) (ds:List Diff) (w:World) (hl:Diffs w lv ds) (hc:Ints w cv (rV ds.length)) (hM:∀d∈ds, -1048577≤d.c∧d.c≤1048577) (hn:ds.length≤1000000) :
  Calls Try.prog 97 #[lv,cv] w (CycRet w (cycB ds)):=by
 obtain ⟨A,c,rfl,h1,h2,h3,hr⟩:=hl
 obtain ⟨A2,c2,rfl,g1,g2,g3,hr2⟩:=hc
 rw [bD] at g1 ⊢
 unfold maxLen at h2 g2
 have HR:=Lib.hid hr
 have HR2:=Lib.hid hr2
 have HM:=Lib.hid hM
 clear h3 hr g3 hr2 hM
 by_cases h0:ds.length=0
 ·have HC:Hid (cycB ds=false):=by
   refine Lib.hid ?_
   unfold cycB;simp only [decide_eq_false_iff_not];rintro ⟨h,_⟩;omega
  have d0:((ds.length:Int) == 0)=true:=by simp;exact qK h0
  clear h0
  go_enter Try.func97,Try.ntmps97
  go_wp2_with fail
  go_ret
  exact ⟨by rw [HC.out];rfl,zM _ _⟩
 ·have d0:((ds.length:Int) == 0)=false:=by simp;intro h;exact h0 (by rw [h];rfl)
  have h0':0<ds.length:=by omega
  have HP:Hid (0<ds.length):=h0'
  obtain ⟨b2,o2,hA2,hb2,hc2⟩:=HR2.out (by simp [bD];omega)
  subst hA2
  have HC2:Hid (∀k,k<ds.length→w.cell? ⟨b2,o2+k,none⟩=some (.int .i64 (k:Int))):=fun k hk=>hc2 k _ (by rw [List.getElem?_map,idx_at hk];rfl)
  clear hc2 h0
  go_enter Try.func97,Try.ntmps97
  go_wp2_with fail
  go_loop [15] (fun i=>∃k:Nat,k≤ds.length∧i = .int .i64 k) (fun i=>ds.length-(intOf i).toNat)
  case atStart=>exact ⟨0,by omega,rfl⟩
  case round =>
   obtain ⟨k,hk,rfl⟩:=hrel
   by_cases hlt:k<ds.length
   ·have hcell:=HC2.out k hlt
    go_wp2_with fail
    go_round
    case rel=>exact ⟨k+1,by omega,by go_num⟩
    case measure=>simp [intOf];omega
   ·go_wp2_with fail
    go_loopw [7,30] (fun s i wr=>∃(k n:Nat),k≤ds.length∧i = .int .i64 k∧s = .int .i64 (csum (ds.take k))∧aV ds k∧wr=w.drewN n) (fun _ i _=>ds.length-(intOf i).toNat)
    case atStart=>exact ⟨0,0,by omega,rfl,rfl,fun i a b h=>by omega,rfl⟩
    case round =>
     obtain ⟨j,n,hj,rfl,rfl,hlink,rfl⟩:=hrel
     have HLK:=Lib.hid hlink
     have hsb:=nE (M:=1048577) (ds:=ds.take j) fun d hd=>HM.out d (zO hd)
     have hlen:(ds.take j).length≤j:=xK _ _
     have hs1 : -1048577000000≤csum (ds.take j)∧csum (ds.take j)≤1048577000000:=by omega
     obtain ⟨hs1,hs2⟩:=hs1
     clear hlink hsb hlen
     by_cases hjt:j<ds.length
     ·obtain ⟨a,ha⟩:∃x,ds[j]? = some x:=⟨_,List.getElem?_eq_getElem hjt⟩
      have hrl:(j+1) % ds.length<ds.length:=Nat.mod_lt _ (by omega)
      obtain ⟨b,hb⟩:∃x,ds[(j+1) % ds.length]? = some x:=⟨_,List.getElem?_eq_getElem hrl⟩
      obtain ⟨b1,o1,rfl,hb1,hx1,hy1,hz1⟩:=HR.out.diff ha
      obtain ⟨b1',o1',hA',hb1',hx2,hy2,hz2⟩:=HR.out.diff hb
      injection hA' with hA'
      injection hA' with e1 e2
      subst e1 e2
      have hcell:=HC2.out j hjt
      have hcell2:=HC2.out _ hrl
      have HA:=Lib.hid ha
      have HB:=Lib.hid hb
      have HCA:=Lib.hid (HM.out a (List.mem_of_getElem? ha))
      have hca1:=HCA.out.1
      have hca2:=HCA.out.2
      have HLS:Hid (a.y=b.x→aV ds (j+1)):=fun e=>lY HLK.out ha hb e
      have HLN:Hid (a.y≠b.x→cycB ds=false):=fun e=>cycB_no ha hb e
      have HCS:=Lib.hid (oV ha)
      generalize hr:(j+1) % ds.length=r at *
      have y1:IntKind.i64.wrap ((j:Int)+1)=(j:Int)+1:=qI _ (by omega)
      have y2:((j:Int)+1).tmod (ds.length:Int)=(r:Int):=by rw [qR (by omega),←hr];simp
      have y3:IntKind.i64.wrap (r:Int)=(r:Int):=qI _ (by omega)
      have y4:¬ds.length=0:=by omega
      clear ha hb hr hb1' hx1 hz2 hy2
      by_cases e:a.y=b.x
      ·have de:(a.y != b.x)=false:=by simp [e]
       have HN:=Lib.hid (HLS.out e)
       have HE:=Lib.hid e
       clear e
       go_wp2_with fail
       go_quiet (fail)
       clear y1 y2 y3 y4
       go_wp2_with fail
       go_roundw
       case rel=>exact ⟨j+1,_,by omega,by go_num,by rw [HCS.out],HN.out,rfl⟩
       case measure=>simp [intOf];omega
      ·have de:(a.y != b.x)=true:=by simp [e]
       have HE:=Lib.hid (HLN.out e)
       clear e
       go_wp2_with fail
       go_quiet (fail)
       clear y1 y2 y3 y4
       go_wp2_with fail
       go_ret
       exact ⟨by rw [HE.out];rfl,cW (cW (zM _ _) _) _⟩
     ·have HE:=Lib.hid (cycB_yes HP.out HLK.out (by omega))
      go_wp2_with fail
      go_ret
      exact ⟨by rw [HE.out];rfl,cW (zM _ _) _⟩
def ClRet (w:World) (r:Option (List Int)) (e:Ending) (w':World):Prop :=
 ∃v,e = .returned (.tuple #[v, .bool r.isSome])∧Own w' w.heap.size v (r.getD [])∧Below w.heap.size w w'
theorem ClRet.no {w w':World} {r:Option (List Int)} (h:r=none) (hb:Below w.heap.size w w'):ClRet w r (.returned (.tuple #[.slice none 0 0, .bool false])) w':=by
 subst h
 exact ⟨_,rfl,⟨qE _ _ _ _,by simp⟩,hb⟩
theorem NormRet.cl {w W w':World} {xs:List Int} {r:Option (List Int)} {e:Ending} (h:NormRet W xs e w') (hr:r=gB xs) (hb:Below w.heap.size w W):ClRet w r e w':=by
 obtain ⟨v,he,⟨h1,h2⟩,h3⟩:=h
 subst hr
 exact ⟨v,he,⟨aI h1 hb.size,h2⟩,hb.trans (h3.mono hb.size)⟩
def OkC (ds:List Diff):Prop:=∀d∈ds,d.ok ∧ -1048576≤d.c∧d.c≤1048576
theorem bound_ok {atoms:List Diff} (h:OkC atoms) {x:Int} {d:Diff} (hd:bound atoms x=some d):d.ok ∧ -1048577≤d.c∧d.c≤1048577:=by
 unfold bound at hd
 split at hd
 ·obtain ⟨h1,h2,h3⟩:=h d (List.mem_of_getElem? hd);exact ⟨h1,by omega,by omega⟩
 ·split at hd
  ·obtain ⟨e,he,rfl⟩:=qW.1 hd
   obtain ⟨⟨h1,h2,h4⟩,h3⟩:=h e (List.mem_of_getElem? he)
   refine ⟨⟨h2,h1,?_⟩,?_,?_⟩
   ·constructor<;>simp only [Diff.opp]<;>omega
   ·simp only [Diff.opp];omega
   ·simp only [Diff.opp];omega
  ·cases hd
theorem pK {atoms ds:List Diff} {lits:List Int} {k:Nat} (h:(lits.take k).map (bound atoms)=ds.map some) {x:Int} (hx:lits[k]? = some x) {d:Diff} (hd:bound atoms x=some d):(lits.take (k+1)).map (bound atoms)=(ds++[d]).map some:=by
 rw [gC hx,List.map_append,h];simp [hd]
theorem bnds_ok {atoms ds:List Diff} {lits:List Int} (ha:OkC atoms) (h:lits.map (bound atoms)=ds.map some):∀d∈ds,d.ok ∧ -1048577≤d.c∧d.c≤1048577:=by
 intro d hd
 have h1:some d∈lits.map (bound atoms):=by rw [h];exact List.mem_map.2 ⟨d,hd,rfl⟩
 obtain ⟨x,_,hx⟩:=List.mem_map.1 h1
 exact bound_ok ha hx
theorem eT {atoms:List Diff} {x:Int} {d:Diff} (h:bound atoms x=some d):x ≠ -9223372036854775808∨9223372036854775807<(atoms.length:Int):=by
 by_cases e:x = -9223372036854775808
 ·right
  subst e
  unfold bound at h
  rw [if_neg (by omega),if_pos (by omega)] at h
  obtain ⟨e,he,_⟩:=qW.1 h
  have:=(zG.1 he).1
  omega
 ·exact .inl e
theorem neg_i64 {atoms ds:List Diff} {lits:List Int} (h:lB atoms lits=some ds) {x:Int} (hx:x∈lits) (h1:I64 x) (hat:atoms.length≤1000000):I64 (-x):=by
 have h2:some (bound atoms x)∈(lits.map (bound atoms)).map some:=List.mem_map.2 ⟨_,List.mem_map.2 ⟨x,hx,rfl⟩,rfl⟩
 rw [bA.1 h] at h2
 obtain ⟨y,hy,e⟩:=List.mem_map.1 h2
 injection e with e
 obtain ⟨d,_,rfl⟩:=List.mem_map.1 hy
 rcases eT e.symm with h|h
 ·obtain ⟨h3,h4⟩:=h1;constructor<;>omega
 ·omega
structure CS (w wr:World) (g1 g2 g3 n:Nat) (fv:Array Value) (ds:List Diff) (lits:List Int) (k:Nat):Prop where
 b0:Blk wr w.heap.size 29 fv
 b1:Blk wr g1 50 (rowD (aH ⟨0,0,0⟩ n ds))
 b2:Blk wr g2 3 (rowI (aH 0 n (rV k)))
 b3:Blk wr g3 3 (rowI (aH 0 n ((lits.take k).map (fun x => -x))))
 bl:Below w.heap.size w wr
theorem CS.keep {w wr w':World} {g1 g2 g3 n:Nat} {fv:Array Value} {ds:List Diff} {lits:List Int} {k:Nat} (h:CS w wr g1 g2 g3 n fv ds lits k) (hb:Below wr.heap.size wr w'):CS w w' g1 g2 g3 n fv ds lits k :=
 ⟨h.b0.keep hb,h.b1.keep hb,h.b2.keep hb,h.b3.keep hb,h.bl.trans (hb.mono h.bl.size)⟩
theorem CS.put {w wr:World} {n:Nat} {fv:Array Value} {ds:List Diff} {lits:List Int} {k:Nat} {x:Int} {d:Diff} (h:CS w wr (w.heap.size+1) (w.heap.size+1+1) (w.heap.size+1+1+1) n fv ds lits k) (hx:lits[k]? = some x) (hd:ds.length=k) (hk:k<n) :
  CS w (((((wr.setCell ⟨w.heap.size+1,k * 3,none⟩ (.int .i64 d.x)).setCell ⟨w.heap.size+1,k * 3+1,none⟩ (.int .i64 d.y)).setCell ⟨w.heap.size+1,k * 3+2,none⟩ (.int .i64 d.c)).setCell ⟨w.heap.size+1+1,k,none⟩ (.int .i64 (k:Int))).setCell ⟨w.heap.size+1+1+1,k,none⟩ (.int .i64 (-x)))
   (w.heap.size+1) (w.heap.size+1+1) (w.heap.size+1+1+1) n fv (ds++[d]) lits (k+1):=by
 have hlt:k<lits.length:=(zG.1 hx).1
 refine ⟨?_,?_,?_,?_,?_⟩
 ·exact ((((h.b0.far (by simp) _).far (by simp) _).far (by simp) _).far (by simp;omega) _).far (by simp;omega) _
 ·rw [←mD (x:=d) (by omega) hd]
  exact ((h.b1.setD k d).far (by simp) _).far (by simp) _
 ·rw [sZ,←mD (x:=(k:Int)) (by rw [bD];omega) (bD k)]
  exact ((((h.b2.far (by simp) _).far (by simp) _).far (by simp) _).setI k k).far (by simp) _
 ·rw [gC hx,List.map_append,zY,yY,←mD (x := -x) (k:=k) (by simp;omega) (by simp;omega)]
  exact ((((h.b3.far (by simp;omega) _).far (by simp;omega) _).far (by simp;omega) _).far (by simp) _).setI k (-x)
 ·exact ((((h.bl.setCell (by simp) _).setCell (by simp) _).setCell (by simp) _).setCell (by simp;omega) _).setCell (by simp;omega) _
set_option maxRecDepth 100000 in
set_option maxHeartbeats 2000000 in
theorem pcycle_any (i j av cv lv:Value) (atoms:List Diff) (lits:List Int) (w:World) (ha:Diffs w av atoms) (hl:Ints w lv lits) (hok:OkC atoms) (hn:lits.length≤1000000) (hat:atoms.length≤1000000) :
  Calls Try.prog 89 #[.agg #[i,j,av,cv],lv] w (ClRet w (cyc atoms lits)):=by
 obtain ⟨A,c,rfl,h1,h2,h3,hr⟩:=hl
 unfold maxLen at h2
 have HA:=Lib.hid ha
 have HX:=Lib.hid h3
 have HR:=Lib.hid hr
 have HOK:=Lib.hid hok
 have HAT:=Lib.hid hat
 obtain ⟨Aa,ca,rfl, -, -, -, -⟩:=ha
 have m1:=mk_diffs lits.length hn
 have m2:=mH lits.length hn
 clear h3 hr hok hat
 go_enter Try.func89,Try.ntmps89
 go_wp2_with fail
 have hCS:CS w ((((w.alloc (.cells #[i,j, .slice Aa atoms.length ca,cv] 29)).alloc (.cells (rowD (List.replicate lits.length ⟨0,0,0⟩)) 50)).alloc (.cells (rowI (List.replicate lits.length 0)) 3)).alloc (.cells (rowI (List.replicate lits.length 0)) 3))
   (w.heap.size+1) (w.heap.size+1+1) (w.heap.size+1+1+1) lits.length #[i,j, .slice Aa atoms.length ca,cv] [] lits 0:=by
  have z0:=Blk.new w 29 #[i,j, .slice Aa atoms.length ca,cv]
  have z1:=Blk.new (w.alloc (.cells #[i,j, .slice Aa atoms.length ca,cv] 29)) 50 (rowD (List.replicate lits.length ⟨0,0,0⟩))
  have z2:=Blk.new ((w.alloc (.cells #[i,j, .slice Aa atoms.length ca,cv] 29)).alloc (.cells (rowD (List.replicate lits.length ⟨0,0,0⟩)) 50)) 3 (rowI (List.replicate lits.length 0))
  have z3:=Blk.new (((w.alloc (.cells #[i,j, .slice Aa atoms.length ca,cv] 29)).alloc (.cells (rowD (List.replicate lits.length ⟨0,0,0⟩)) 50)).alloc (.cells (rowI (List.replicate lits.length 0)) 3)) 3 (rowI (List.replicate lits.length 0))
  simp only [xD] at z1 z2 z3
  refine ⟨((z0.alloc _).alloc _).alloc _,?_,?_,?_,by go_grown⟩
  ·rw [pad_nil];exact (z1.alloc _).alloc _
  ·rw [show rV 0=[] from rfl,pad_nil];exact z2.alloc _
  ·rw [vP,yY,pad_nil];exact z3
 generalize (((w.alloc (.cells #[i,j, .slice Aa atoms.length ca,cv] 29)).alloc (.cells (rowD (List.replicate lits.length ⟨0,0,0⟩)) 50)).alloc (.cells (rowI (List.replicate lits.length 0)) 3)).alloc (.cells (rowI (List.replicate lits.length 0)) 3)=W at *
 have HCS:=Lib.hid hCS
 clear hCS m1 m2
 go_loopw [24] (fun i_ wr=>∃(k:Nat) (ds:List Diff),k≤lits.length∧i_ = .int .i64 k∧ds.length=k∧(lits.take k).map (bound atoms)=ds.map some∧CS w wr (w.heap.size+1) (w.heap.size+1+1) (w.heap.size+1+1+1) lits.length #[i,j, .slice Aa atoms.length ca,cv] ds lits k) (fun i_ _=>lits.length-(intOf i_).toNat)
 case atStart=>exact ⟨0,[],by omega,rfl,rfl,rfl,HCS.out⟩
 case round =>
  obtain ⟨k,ds,hk,rfl,hds,hbn,hcs⟩:=hrel
  have H1:=Lib.hid hcs
  have HDS:=Lib.hid hds
  have HBN:=Lib.hid hbn
  have q0:=hcs.b0.cell 0
  have q1:=hcs.b0.cell 1
  have q2:=hcs.b0.cell 2
  have q3:=hcs.b0.cell 3
  simp only [zA,zB,zC] at q0 q1 q2 q3
  clear hcs hds hbn
  by_cases hlt:k<lits.length
  ·obtain ⟨x,hxk⟩:∃x,lits[k]? = some x:=⟨_,List.getElem?_eq_getElem hlt⟩
   obtain ⟨b1,o1,rfl,hb1,hc1⟩:=(HR.out.keep H1.out.bl).int hxk
   have HXK:=Lib.hid hxk
   have HIX:=Lib.hid (HX.out x (List.mem_of_getElem? hxk))
   clear hxk
   go_wp2_with fail
   refine (cN _ _ _ _ atoms _ x (HA.out.keep H1.out.bl) (fun d hd=>by have:=(HOK.out d hd).2.1;omega) HIX.out).mono ?_
   rintro e w2 ⟨rfl,hb2⟩
   have H2:=Lib.hid (H1.out.keep hb2)
   clear hb2 q0 q1 q2 q3
   cases hbd:bound atoms x with
   | none =>
    have HC:Hid (cyc atoms lits=none):=by
     refine Lib.hid ?_
     unfold cyc;rw [bnds_none (List.mem_of_getElem? HXK.out) hbd]
    rw [show boundVal none = .tuple #[.agg #[.int .i64 0, .int .i64 0, .int .i64 0], .bool false] from rfl]
    clear hbd
    go_wp2_with fail
    go_ret2
    exact ClRet.no HC.out (by have:=H2.out.bl;exact this.alloc this.size _)
   | some d =>
    rw [show boundVal (some d) = .tuple #[.agg #[.int .i64 d.x, .int .i64 d.y, .int .i64 d.c], .bool true] from rfl]
    have HBD:=Lib.hid hbd
    have hx0:x ≠ -9223372036854775808:=by
     rcases eT hbd with h|h
     ·exact h
     ·have:=HAT.out;omega
    have hx1 : -9223372036854775807≤x:=by have:=HIX.out.1;omega
    have hx2:x≤9223372036854775807:=HIX.out.2
    clear hbd hx0
    have H3:Hid (CS w (w2.alloc (.cells #[.int .i64 d.x, .int .i64 d.y, .int .i64 d.c] 50)) (w.heap.size+1) (w.heap.size+1+1) (w.heap.size+1+1+1) lits.length #[i,j, .slice Aa atoms.length ca,cv] ds lits k):=H2.out.keep (by go_grown)
    have p0:=H3.out.b1.cell (k * 3)
    have p1:=H3.out.b1.cell (k * 3+1)
    have p2:=H3.out.b1.cell (k * 3+2)
    have hat:=rowD_at (pQ (z:=(⟨0,0,0⟩:Diff)) (n:=lits.length) (ys:=ds) hlt (by rw [HDS.out];exact Nat.le_refl _))
    rw [hat.1] at p0
    rw [hat.2.1] at p1
    rw [hat.2.2] at p2
    have p3:=H3.out.b2.cell k
    rw [mI (pQ (z:=(0:Int)) (n:=lits.length) (ys:=rV k) hlt (by rw [bD];exact Nat.le_refl _))] at p3
    have p4:=H3.out.b3.cell k
    rw [mI (pQ (z:=(0:Int)) (n:=lits.length) (ys:=(lits.take k).map (fun x => -x)) hlt (by simp;omega))] at p4
    have z0:=H3.out.b1.frozen (k * 3)
    have z1:=H3.out.b1.frozen (k * 3+1)
    have z2:=H3.out.b1.frozen (k * 3+2)
    have z3:=H3.out.b2.frozen k
    have z4:=H3.out.b3.frozen k
    clear hat
    go_wp2_with fail
    have H4:=Lib.hid (H3.out.put (d:=d) HXK.out HDS.out hlt)
    go_roundw
    case rel=>exact ⟨k+1,ds++[d],by omega,by go_num,by simp [HDS.out],pK HBN.out HXK.out HBD.out,H4.out⟩
    case measure=>simp [intOf];omega
  ·obtain rfl:k=lits.length:=by omega
   have HBS:Hid (lB atoms lits=some ds):=bA.2 (by have h:=HBN.out;rwa [qQ] at h)
   have hdok:=bnds_ok HOK.out (by have h:=HBN.out;rwa [qQ] at h)
   have HDO:=Lib.hid hdok
   have hb1:=H1.out.b1
   have hb2:=H1.out.b2
   have hb3:=H1.out.b3
   rw [eQ HDS.out] at hb1
   rw [eQ (bD _)] at hb2
   rw [qQ,eQ (by simp)] at hb3
   have hD:=hb1.diffs (fun d hd=>(HDO.out d hd).1) (by rw [HDS.out];unfold maxLen;omega)
   rw [HDS.out] at hD
   have hI:=hb2.ints (fun x hx=>by obtain ⟨q,hq,rfl⟩:=List.mem_map.1 hx;have:=jP.1 hq;constructor<;>omega) (by rw [bD];unfold maxLen;omega)
   rw [bD] at hI
   have HD1:=Lib.hid hD
   have HI1:=Lib.hid hI
   have HB3:=Lib.hid hb3
   clear hb1 hb2 hb3 hD hI hdok q0 q1 q2 q3
   go_wp2_with fail
   refine (fcycle_any _ _ ds _ HD1.out (by rw [HDS.out];exact HI1.out) (fun d hd=>(HDO.out d hd).2) (by rw [HDS.out];exact hn)).mono ?_
   rintro e w2 ⟨rfl,hb2⟩
   have H2:=Lib.hid (H1.out.bl.trans (hb2.mono H1.out.bl.size))
   have HN2:=Lib.hid (HB3.out.keep hb2)
   clear hb2
   cases hcy:cycB ds with
   | false =>
    have HC:Hid (cyc atoms lits=none):=by
     refine Lib.hid ?_
     unfold cyc;rw [HBS.out];simp [hcy]
    clear hcy
    simp only
    go_wp2_with fail
    go_ret2
    exact ClRet.no HC.out H2.out
   | true =>
    have HC:Hid (cyc atoms lits=gB (lits.map (fun x => -x))):=by
     refine Lib.hid ?_
     unfold cyc;rw [HBS.out];simp [hcy]
    clear hcy
    have hI2:Ints w2 (.slice (some ⟨w.heap.size+1+1+1,0,none⟩) lits.length lits.length) (lits.map (fun x => -x)):=by
     have h:=HN2.out.ints (fun y hy => ?_) (by simp;unfold maxLen;omega)
     ·simpa using h
     ·obtain ⟨x,hx,rfl⟩:=List.mem_map.1 hy
      have h1:=HX.out x hx
      have h2:some (bound atoms x)∈(lits.map (bound atoms)).map some:=List.mem_map.2 ⟨_,List.mem_map.2 ⟨x,hx,rfl⟩,rfl⟩
      rw [bA.1 HBS.out] at h2
      obtain ⟨y,hy,e⟩:=List.mem_map.1 h2
      injection e with e
      obtain ⟨d,_,rfl⟩:=List.mem_map.1 hy
      rcases eT e.symm with h|h
      ·obtain ⟨h3,h4⟩:=h1;constructor<;>omega
      ·have:=HAT.out;omega
    have HI2:=Lib.hid hI2
    clear hI2
    simp only
    go_wp2_with fail
    refine (cP _ (lits.map (fun x => -x)) _ HI2.out (by simp;omega)).mono ?_
    intro e w3 hnr
    have hcl:=NormRet.cl (w:=w) hnr HC.out H2.out
    clear hnr
    obtain ⟨v,rfl,h5,h6⟩:=hcl
    have H5:=Lib.hid h5
    have H6:=Lib.hid h6
    clear h5 h6
    go_wp2_with fail
    go_ret2
    exact ⟨v,rfl,H5.out,H6.out⟩
end Go.Proofs.Yticieifacalocaa
