/- Step Cycle Make Shelf -/
import Derived.Test.YticieifacalocaaTSH3
import Derived.Laws.MakeOwn
import Derived.Shelf.Small.Bits
import Derived.Shelf.Strconv.Itoa0
import Derived.Shelf.Slices.Turned
import Derived.Ground.Names2Prog
import Derived.Shelf.Slices.Clone
import Derived.Shelf.Slices.CompactI
import Derived.Shelf.Slices.Cells
import Derived.Ground.SlsfProg
import Derived.Shelf.SlSortCmp.SiftDown1
import Derived.Shelf.SlSortCmp.HeapSort1
import Derived.Shelf.SlSortCmp.Insertion1
import Derived.Shelf.SlSortCmp.Median1
import Derived.Shelf.SlSortCmp.Pivot1
import Derived.Shelf.SlSortCmp.ReverseRange1
import Derived.Shelf.SlSortCmp.PartialInsertion1
import Derived.Shelf.SlSortCmp.PartitionEqual1
import Derived.Shelf.SlSortCmp.Partition1
import Derived.Shelf.SlSortCmp.Pdq1
import Derived.Shelf.SlSortCmp.Whole1
import Derived.Shelf.SlSortCmp.NoneTotal
import Derived.Test.YticieifacalocaaProg
namespace Go.Proofs.Yticieifacalocaa
structure Stp where
 kind:Int
 index:Int
 lits:List Int
 p:Int
 q:Int
 var:Int
def hJ (ds:List Diff) (k:Nat):Prop:=∀(i:Nat) (a b:Diff),i<k→ds[i]? = some a→ds[(i+1) % ds.length]? = some b→a.y=b.x
def csum (ds:List Diff):Int:=(ds.map Diff.c).sum
def Cyc (ds:List Diff):Prop:=0<ds.length∧hJ ds ds.length∧csum ds<0
open Classical in
noncomputable def cycB (ds:List Diff):Bool:=decide (Cyc ds)
def iF (atoms:List Diff):List Int→Option (List Diff)
 | []=>some []
 | x::r=>match bound atoms x,iF atoms r with
  | some d,some ds=>some (d::ds)
  | _,_=>none
theorem bA {atoms:List Diff} {lits:List Int} {ds:List Diff}:iF atoms lits=some ds↔lits.map (bound atoms)=ds.map some:=by
 induction lits generalizing ds with
 | nil=>cases ds<;>simp [iF]
 | cons x r ih =>
  rw [iF]
  cases h:bound atoms x with
  | none=>cases ds<;>simp [h]
  | some d =>
   cases h2:iF atoms r with
   | none =>
    constructor
    ·intro h;cases h
    ·intro h3
     cases ds with
     | nil=>simp at h3
     | cons e es =>
      rw [qC,qC] at h3
      injection h3 with _ h4
      rw [←ih,h2] at h4
      cases h4
   | some es =>
    cases ds with
    | nil=>simp
    | cons e rs =>
     rw [qC,qC,h]
     constructor
     ·intro h3
      injection h3 with h3
      injection h3 with h3 h4
      subst h3 h4
      rw [ih.1 h2]
     ·intro h3
      injection h3 with h3 h4
      injection h3 with h3
      rw [←ih,h2] at h4
      injection h4 with h4
      rw [h3,h4]
theorem bnds_none {atoms:List Diff} {lits:List Int} {x:Int} (hx:x∈lits) (h:bound atoms x=none):iF atoms lits=none:=by
 cases e:iF atoms lits with
 | none=>rfl
 | some ds =>
  have h1:=bA.1 e
  have h2:bound atoms x∈ds.map some:=by rw [←h1];exact List.mem_map.2 ⟨x,hx,rfl⟩
  rw [h] at h2
  obtain ⟨d,_,hd⟩:=List.mem_map.1 h2
  cases hd
noncomputable def cyc (atoms:List Diff) (lits:List Int):Option (List Int) :=
 match iF atoms lits with
 | some ds=>if cycB ds=true then wJ (lits.map (fun x => -x)) else none
 | none=>none
def res (p q:List Int) (v:Int):Option (List Int) :=
 if 0≤v∧v<1024∧v+1∈p ∧ -(v+1)∈q then wJ (p.filter (fun x=>decide (x≠v+1))++q.filter (fun x=>decide (x ≠ -(v+1)))) else none
noncomputable def deriv (f:Form) (s:Stp) (cs:List (List Int)):Option (List Int) :=
 if s.kind=1 then (if 0≤s.index then (f.clauses[s.index.toNat]?).bind wJ else none)
 else if s.kind=2 then cyc f.atoms s.lits
 else if s.kind=3 then (if 0≤s.p∧0≤s.q then (cs[s.p.toNat]?).bind fun a=>(cs[s.q.toNat]?).bind fun b=>res a b s.var else none)
 else none
noncomputable def wX (f:Form):List (List Int)→List Stp→List (List Int) × Bool
 | cs,[]=>(cs,true)
 | cs,s::r=>match deriv f s cs with
  | some c=>wX f (cs++[c]) r
  | none=>(cs,false)
theorem fB {f:Form} {cs:List (List Int)} {l:List Stp} {k:Nat} {s:Stp} (hk:l[k]? = some s) {c:List Int} (hd:deriv f s cs=some c):wX f (cs++[c]) (l.drop (k+1))=wX f cs (l.drop k):=by
 obtain ⟨h1,h2⟩:=zG.1 hk
 rw [zT h1,h2,wX,hd]
theorem gT {f:Form} {cs:List (List Int)} {l:List Stp} {k:Nat} {s:Stp} (hk:l[k]? = some s) (hd:deriv f s cs=none):wX f cs (l.drop k)=(cs,false):=by
 obtain ⟨h1,h2⟩:=zG.1 hk
 rw [zT h1,h2,wX,hd]
theorem runS_end {f:Form} {cs:List (List Int)} {l:List Stp} {k:Nat} (hk:l.length≤k):wX f cs (l.drop k)=(cs,true):=by
 rw [qY hk,wX]
open Go.RowKit
def idx (n:Nat):List Int:=(List.range n).map (fun i:Nat=>(i:Int))
theorem oA (n:Nat):(idx n).length=n:=by simp [idx]
theorem idx_at {n k:Nat} (h:k<n):(idx n)[k]? = some (k:Int):=by simp [idx,h]
theorem idx_succ (n:Nat):idx (n+1)=idx n++[(n:Int)]:=by simp [idx,List.range_succ]
theorem csum_take {ds:List Diff} {k:Nat} {d:Diff} (h:ds[k]? = some d):csum (ds.take (k+1))=csum (ds.take k)+d.c:=by
 rw [wL h];simp [csum]
theorem sI {ds:List Diff} {M:Int} (h:∀d∈ds, -M≤d.c∧d.c≤M) : -(M * ds.length)≤csum ds∧csum ds≤M * ds.length:=by
 induction ds with
 | nil=>simp [csum]
 | cons d r ih =>
  have h1:=h d (by simp)
  have h2:=ih fun e he=>h e (by simp [he])
  have h3:M * ((d::r).length:Int)=M * (r.length:Int)+M:=by rw [qJ,Int.natCast_succ,kG,jT]
  simp only [csum,qC,vB] at h2 ⊢
  omega
theorem oX {ds:List Diff} {k:Nat} (h:hJ ds k) {a b:Diff} (ha:ds[k]? = some a) (hb:ds[(k+1) % ds.length]? = some b) (e:a.y=b.x):hJ ds (k+1):=by
 intro i x y hi hx hy
 by_cases hk:i=k
 ·subst hk
  rw [ha] at hx;rw [hb] at hy
  injection hx with hx;injection hy with hy
  subst hx hy;exact e
 ·exact h i x y (by omega) hx hy
theorem cycB_no {ds:List Diff} {k:Nat} {a b:Diff} (ha:ds[k]? = some a) (hb:ds[(k+1) % ds.length]? = some b) (e:a.y≠b.x):cycB ds=false:=by
 unfold cycB
 simp only [decide_eq_false_iff_not]
 rintro ⟨_,h,_⟩
 exact e (h k a b (zG.1 ha).1 ha hb)
open Classical in
theorem cycB_yes {ds:List Diff} {k:Nat} (h0:0<ds.length) (h:hJ ds k) (hk:ds.length≤k):cycB ds=decide (csum (ds.take k)<0):=by
 unfold cycB
 rw [zU hk]
 refine oD ⟨fun h=>h.2.2,fun h'=>⟨h0,fun i a b hi=>h i a b (by omega),h'⟩⟩
def CycRet (w:World) (b:Bool) (e:Ending) (w':World):Prop:=e = .returned (.bool b)∧Below w.heap.size w w'
def sB {α:Type} (z:α) (n:Nat) (ys:List α):List α:=ys++List.replicate (n-ys.length) z
section
variable {α:Type} {z x:α} {n:Nat} {ys:List α}
theorem pad_full (h:ys.length=n):sB z n ys=ys:=by simp [sB,h]
theorem pad_set (h:ys.length<n) {k:Nat} (hk:ys.length=k):(sB z n ys).set k x=sB z n (ys++[x]):=by
 subst hk
 obtain ⟨m,hm⟩:∃m,n-ys.length=m+1:=⟨n-ys.length-1,by omega⟩
 have hm2:n-(ys.length+1)=m:=by omega
 simp [sB,hm,hm2,List.replicate_succ]
theorem pad_at {k:Nat} (h:k<n) (hk:ys.length≤k):(sB z n ys)[k]? = some z:=by
 rw [sB,zL hk,List.getElem?_replicate,if_pos (by omega)]
end
def bU (xs:List Int):Array Value:=(xs.map (Value.int .i64)).toArray
def eZ (xs:List Bool):Array Value:=(xs.map Value.bool).toArray
section
variable {w:World} {g k:Nat} {t:TypeId} {xs:List Int} {bs:List Bool} {ds:List Diff}
theorem iM {x:Int} (h:xs[k]? = some x):(bU xs)[k]? = some (.int .i64 x):=by simp [bU,h]
theorem nW {x:Bool} (h:bs[k]? = some x):(eZ bs)[k]? = some (.bool x):=by simp [eZ,h]
theorem Blk.setI (h:Blk w g t (bU xs)) (k:Nat) (x:Int):Blk (w.setCell ⟨g,k,none⟩ (.int .i64 x)) g t (bU (xs.set k x)):=by
 have:=h.set_ k (.int .i64 x)
 rwa [show (bU xs).setIfInBounds k (.int .i64 x)=bU (xs.set k x) by simp [bU]] at this
theorem Blk.setB (h:Blk w g t (eZ bs)) (k:Nat) (x:Bool):Blk (w.setCell ⟨g,k,none⟩ (.bool x)) g t (eZ (bs.set k x)):=by
 have:=h.set_ k (.bool x)
 rwa [show (eZ bs).setIfInBounds k (.bool x)=eZ (bs.set k x) by simp [eZ]] at this
theorem Blk.bools (h:Blk w g t (eZ bs)) (hl:bs.length≤maxLen):Bools w (.slice (some ⟨g,0,none⟩) bs.length bs.length) bs :=
 ⟨_,_,rfl,Nat.le_refl _,hl,fun _=>⟨g,0,rfl,h.lt,fun j u hu=>by rw [qZ,h.cell j,eZ,zA];exact hu⟩⟩
end
theorem bD (zs:Array Value) (z:Value) (n:Nat) (h0:0<zs.size) (h:∀i,i<zs.size→zs[i]! = z):madeCells zs n=(List.replicate n z).toArray:=by
 apply Array.ext
 ·simp [madeCells]
 ·intro i h1 h2
  simp only [madeCells,Array.getElem_map,Array.getElem_range]
  rw [h _ (Nat.mod_lt _ h0)]
  simp
theorem dO {P:Program} (t e:TypeId) (i:TypeInfo) (z:Value) (ht:P.underlying t=some (.slice e)) (hi:P.info? e=some i) (hz:i.zero=some z)
  (n:Nat) (hbytes:i.bytes * n≤281474976710656) (h63:n≤9223372036854775807) (w:World) :
  (Instr.makeSlice t (.int .i64 (n:Int)) (.int .i64 (n:Int))).run P w = .ok (.slice (some ⟨w.heap.size,0,none⟩) n n) (w.alloc (.cells (madeCells z.cells (n * i.size)) e)):=by
 have hb:(i.bytes:Int) * (n:Int)≤281474976710656:=by
  have h:((i.bytes * n:Nat):Int)≤281474976710656:=by omega
  rwa [Int.natCast_mul] at h
 have hr:=run_make (P:=P) w t e i z ht hi hz .i64 .i64 n n (by omega) (by omega) hb (by omega)
 simp only [Int.toNat_natCast] at hr
 exact hr
theorem fN:(Try.prog.info? 4).map (fun i=>(i.zero,i.size,i.bytes))=some (some (.bool false),1,1):=by kernel_rfl
theorem zero_i:∀i,i<(Value.int .i64 0).cells.size→(Value.int .i64 0).cells[i]! = .int .i64 0:=fun i hi=>by
 have hi':i<1:=hi
 obtain rfl:i=0:=by omega
 rfl
theorem zero_b:∀i,i<(Value.bool false).cells.size→(Value.bool false).cells[i]! = .bool false:=fun i hi=>by
 have hi':i<1:=hi
 obtain rfl:i=0:=by omega
 rfl
theorem mk_ints (n:Nat) (h:n≤1000000) (w:World):(Instr.makeSlice 33 (.int .i64 (n:Int)) (.int .i64 (n:Int))).run Try.prog w = .ok (.slice (some ⟨w.heap.size,0,none⟩) n n) (w.alloc (.cells (bU (List.replicate n 0)) 3)):=by
 obtain ⟨i,hi,h0,h1,h2⟩:=qD wV
 rw [dO _ _ i _ Try.underlying33 hi h0 n (by rw [h2];omega) (by omega) w,h1,bD _ (.int .i64 0) _ (by decide) zero_i,yA]
 simp [bU]
theorem mk_bools (n:Nat) (h:n≤1000000) (w:World):(Instr.makeSlice 32 (.int .i64 (n:Int)) (.int .i64 (n:Int))).run Try.prog w = .ok (.slice (some ⟨w.heap.size,0,none⟩) n n) (w.alloc (.cells (eZ (List.replicate n false)) 4)):=by
 obtain ⟨i,hi,h0,h1,h2⟩:=qD fN
 rw [dO _ _ i _ Try.underlying32 hi h0 n (by rw [h2];omega) (by omega) w,h1,bD _ (.bool false) _ (by decide) zero_b,yA]
 simp [eZ]
end Go.Proofs.Yticieifacalocaa
namespace Go.Proofs
open Go.Shelf
def Try.laysNm215_ren:Go.Shelf.Ren:=⟨fun|15=>99|n=>n,fun|22=>33|3=>3|4=>4|n=>n,fun|n=>n⟩
theorem Try.laysNm215:Go.Proofs.Lays2.n15 Try.prog Try.laysNm215_ren:={
 mixed:=by kernel_rfl
 f15:=Try.func99.trans (congrArg some (by kernel_rfl))
 t3:=Try.underlying3
 a3:=Try.isAgg3
 z3:=Try.sizeOf3
 v3:=Try.zeroValue3
 t4:=Try.underlying4
 a4:=Try.isAgg4
 z4:=Try.sizeOf4
 v4:=Try.zeroValue4
 t22:=Try.underlying33
 a22:=Try.isAgg33
 z22:=Try.sizeOf33
 v22:=Try.zeroValue33
 i3:=by kernel_rfl }
open Go.RowKit Go.Lib in
theorem Try.slices_Clone_int (b off n c:Nat) (zs:List Int) (w:World) (hz:n≤zs.length) (hbig:n * 8≤140737488355328) (hc:∀j,j<zs.length→w.cell? ⟨b,off+j,none⟩=some (.int .i64 (zs.getD j 0))) :
  Calls Try.prog 99 #[.slice (some ⟨b,off,none⟩) n c] w fun e w'=>∃v',e = .returned v'∧w'.ownsRow w.heap.size 3 1 v' n ((zs.take n).map (Value.int .i64))∧v' ≠ .slice none 0 0∧Below w.heap.size w w':=Any.slices_Clone_int Try.laysNm215 b off n c zs w hz hbig hc
def Try.laysNm220_ren:Go.Shelf.Ren:=⟨fun|20=>80|n=>n,fun|22=>33|3=>3|4=>4|0=>0|n=>n,fun|n=>n⟩
theorem Try.laysNm220:Go.Proofs.Lays2.n20 Try.prog Try.laysNm220_ren:={
 mixed:=by kernel_rfl
 f20:=Try.func80.trans (congrArg some (by kernel_rfl))
 t0:=Try.underlying0
 a0:=Try.isAgg0
 z0:=Try.sizeOf0
 v0:=Try.zeroValue0
 t3:=Try.underlying3
 a3:=Try.isAgg3
 z3:=Try.sizeOf3
 v3:=Try.zeroValue3
 t4:=Try.underlying4
 a4:=Try.isAgg4
 z4:=Try.sizeOf4
 v4:=Try.zeroValue4
 t22:=Try.underlying33
 a22:=Try.isAgg33
 z22:=Try.sizeOf33
 v22:=Try.zeroValue33
 i3:=by kernel_rfl }
open Go.RowKit Go.Lib Go.Sort in
theorem Try.slices_Compact_int (blk off cap:Nat) (zs:List Int) (w:World) (hH:Holds (Value.int .i64) w blk off zs.toArray) (hsz:zs.length≤9223372036854775807) (hcap:zs.length≤cap) :
  Calls Try.prog 80 #[.slice (some ⟨blk,off,none⟩) zs.length cap] w fun e w'=>e = .returned (.slice (some ⟨blk,off,none⟩) (Lib.compact zs).length cap)∧∃q,w'=putRow (Value.int .i64) (Sort.ahead w q) blk off (Lib.compact zs++List.replicate (zs.length-(Lib.compact zs).length) 0).toArray:=Any.slices_Compact_int Try.laysNm220 blk off cap zs w hH hsz hcap
open Go.RowKit Go.Lib Go.Sort in
theorem Try.slices_Compact_int_empty (a:Option Addr) (cap:Nat) (w:World) :
  Calls Try.prog 80 #[.slice a 0 cap] w fun e w'=>e = .returned (.slice a 0 cap)∧w'=w:=Any.slices_Compact_int_empty Try.laysNm220 a cap w
def Try.laysSlF6_f77_ren:Go.Shelf.Ren:=⟨fun|6=>77|15=>94|14=>93|28=>109|29=>110|20=>101|21=>102|22=>103|23=>104|24=>105|25=>106|26=>107|27=>108|46=>112|47=>113|48=>114|49=>115|50=>116|57=>117|n=>n,fun|22=>33|24=>3|25=>128|3=>3|39=>142|0=>0|53=>155|55=>157|4=>4|46=>148|45=>147|50=>152|5=>5|9=>9|66=>159|70=>163|76=>165|77=>166|n=>n,fun|n=>n⟩
theorem Try.laysSlF6_f77:Go.Proofs.SlLaysF.n6 Try.prog Try.laysSlF6_f77_ren:={
 mixed:=by kernel_rfl
 f6:=⟨Try.f77.name,by decide,Try.func77.trans (congrArg some (by kernel_rfl))⟩
 f14:=⟨Try.f93.name,by decide,Try.func93.trans (congrArg some (by kernel_rfl))⟩
 f15:=Try.func94.trans (congrArg some (by kernel_rfl))
 f20:=⟨Try.f101.name,by decide,Try.func101.trans (congrArg some (by kernel_rfl))⟩
 f21:=⟨Try.f102.name,by decide,Try.func102.trans (congrArg some (by kernel_rfl))⟩
 f22:=⟨Try.f103.name,by decide,Try.func103.trans (congrArg some (by kernel_rfl))⟩
 f23:=⟨Try.f104.name,by decide,Try.func104.trans (congrArg some (by kernel_rfl))⟩
 f24:=⟨Try.f105.name,by decide,Try.func105.trans (congrArg some (by kernel_rfl))⟩
 f25:=⟨Try.f106.name,by decide,Try.func106.trans (congrArg some (by kernel_rfl))⟩
 f26:=⟨Try.f107.name,by decide,Try.func107.trans (congrArg some (by kernel_rfl))⟩
 f27:=⟨Try.f108.name,by decide,Try.func108.trans (congrArg some (by kernel_rfl))⟩
 f28:=Try.func109.trans (congrArg some (by kernel_rfl))
 f29:=Try.func110.trans (congrArg some (by kernel_rfl))
 f46:=⟨Try.f112.name,by decide,Try.func112.trans (congrArg some (by kernel_rfl))⟩
 f47:=Try.func113.trans (congrArg some (by kernel_rfl))
 f48:=Try.func114.trans (congrArg some (by kernel_rfl))
 f49:=⟨Try.f115.name,by decide,Try.func115.trans (congrArg some (by kernel_rfl))⟩
 f50:=⟨Try.f116.name,by decide,Try.func116.trans (congrArg some (by kernel_rfl))⟩
 f57:=⟨Try.f117.name,by decide,Try.func117.trans (congrArg some (by kernel_rfl))⟩
 t0:=Try.underlying0
 a0:=Try.isAgg0
 z0:=Try.sizeOf0
 v0:=Try.zeroValue0
 t3:=Try.underlying3
 a3:=Try.isAgg3
 z3:=Try.sizeOf3
 v3:=Try.zeroValue3
 t4:=Try.underlying4
 a4:=Try.isAgg4
 z4:=Try.sizeOf4
 v4:=Try.zeroValue4
 t5:=Try.underlying5
 a5:=Try.isAgg5
 z5:=Try.sizeOf5
 v5:=Try.zeroValue5
 t9:=Try.underlying9
 a9:=Try.isAgg9
 z9:=Try.sizeOf9
 v9:=Try.zeroValue9
 t22:=Try.underlying33
 a22:=Try.isAgg33
 z22:=Try.sizeOf33
 v22:=Try.zeroValue33
 a24:=Try.isAgg3
 z24:=Try.sizeOf3
 t25:=Try.underlying128
 a25:=Try.isAgg128
 z25:=Try.sizeOf128
 v25:=Try.zeroValue128
 t39:=Try.underlying142
 a39:=Try.isAgg142
 z39:=Try.sizeOf142
 v39:=Try.zeroValue142
 t45:=Try.underlying147
 a45:=Try.isAgg147
 z45:=Try.sizeOf147
 v45:=Try.zeroValue147
 t46:=Try.underlying148
 a46:=Try.isAgg148
 z46:=Try.sizeOf148
 v46:=Try.zeroValue148
 t50:=Try.underlying152
 a50:=Try.isAgg152
 z50:=Try.sizeOf152
 v50:=Try.zeroValue152
 t53:=Try.underlying155
 a53:=Try.isAgg155
 z53:=Try.sizeOf155
 v53:=Try.zeroValue155
 t55:=Try.underlying157
 a55:=Try.isAgg157
 z55:=Try.sizeOf157
 v55:=Try.zeroValue157
 t66:=Try.underlying159
 a66:=Try.isAgg159
 z66:=Try.sizeOf159
 v66:=Try.zeroValue159
 t70:=Try.underlying163
 a70:=Try.isAgg163
 z70:=Try.sizeOf163
 v70:=Try.zeroValue163
 t76:=Try.underlying165
 a76:=Try.isAgg165
 z76:=Try.sizeOf165
 v76:=Try.zeroValue165
 t77:=Try.underlying166
 a77:=Try.isAgg166
 z77:=Try.sizeOf166
 v77:=Try.zeroValue166 }
def Try.laysSlF06_f77_ren:Go.Shelf.Ren:=⟨fun|6=>77|15=>94|14=>93|28=>109|29=>110|20=>101|21=>102|22=>103|23=>104|24=>105|25=>106|26=>107|27=>108|46=>112|47=>113|48=>114|49=>115|50=>116|57=>117|n=>n,fun|22=>33|24=>3|25=>128|3=>3|39=>142|0=>0|53=>155|55=>157|4=>4|46=>148|45=>147|50=>152|5=>5|9=>9|66=>159|70=>163|76=>165|77=>166|n=>n,fun|n=>n⟩
theorem Try.laysSlF06_f77:Go.Proofs.SlLaysF0.n6 Try.prog Try.laysSlF06_f77_ren:={
 mixed:=by kernel_rfl
 f6:=⟨Try.f77.name,by decide,Try.func77.trans (congrArg some (by kernel_rfl))⟩
 f14:=⟨Try.f93.name,by decide,Try.func93.trans (congrArg some (by kernel_rfl))⟩
 f15:=Try.func94.trans (congrArg some (by kernel_rfl))
 f20:=⟨Try.f101.name,by decide,Try.func101.trans (congrArg some (by kernel_rfl))⟩
 f21:=⟨Try.f102.name,by decide,Try.func102.trans (congrArg some (by kernel_rfl))⟩
 f22:=⟨Try.f103.name,by decide,Try.func103.trans (congrArg some (by kernel_rfl))⟩
 f23:=⟨Try.f104.name,by decide,Try.func104.trans (congrArg some (by kernel_rfl))⟩
 f24:=⟨Try.f105.name,by decide,Try.func105.trans (congrArg some (by kernel_rfl))⟩
 f25:=⟨Try.f106.name,by decide,Try.func106.trans (congrArg some (by kernel_rfl))⟩
 f26:=⟨Try.f107.name,by decide,Try.func107.trans (congrArg some (by kernel_rfl))⟩
 f27:=⟨Try.f108.name,by decide,Try.func108.trans (congrArg some (by kernel_rfl))⟩
 f28:=Try.func109.trans (congrArg some (by kernel_rfl))
 f29:=Try.func110.trans (congrArg some (by kernel_rfl))
 f46:=⟨Try.f112.name,by decide,Try.func112.trans (congrArg some (by kernel_rfl))⟩
 f47:=Try.func113.trans (congrArg some (by kernel_rfl))
 f48:=Try.func114.trans (congrArg some (by kernel_rfl))
 f49:=⟨Try.f115.name,by decide,Try.func115.trans (congrArg some (by kernel_rfl))⟩
 f50:=⟨Try.f116.name,by decide,Try.func116.trans (congrArg some (by kernel_rfl))⟩
 f57:=⟨Try.f117.name,by decide,Try.func117.trans (congrArg some (by kernel_rfl))⟩
 t0:=Try.underlying0
 a0:=Try.isAgg0
 z0:=Try.sizeOf0
 v0:=Try.zeroValue0
 t3:=Try.underlying3
 a3:=Try.isAgg3
 z3:=Try.sizeOf3
 v3:=Try.zeroValue3
 t4:=Try.underlying4
 a4:=Try.isAgg4
 z4:=Try.sizeOf4
 v4:=Try.zeroValue4
 t5:=Try.underlying5
 a5:=Try.isAgg5
 z5:=Try.sizeOf5
 v5:=Try.zeroValue5
 t9:=Try.underlying9
 a9:=Try.isAgg9
 z9:=Try.sizeOf9
 v9:=Try.zeroValue9
 t22:=Try.underlying33
 a22:=Try.isAgg33
 z22:=Try.sizeOf33
 v22:=Try.zeroValue33
 t25:=Try.underlying128
 a25:=Try.isAgg128
 z25:=Try.sizeOf128
 v25:=Try.zeroValue128
 t39:=Try.underlying142
 a39:=Try.isAgg142
 z39:=Try.sizeOf142
 v39:=Try.zeroValue142
 t45:=Try.underlying147
 a45:=Try.isAgg147
 z45:=Try.sizeOf147
 v45:=Try.zeroValue147
 t46:=Try.underlying148
 a46:=Try.isAgg148
 z46:=Try.sizeOf148
 v46:=Try.zeroValue148
 t50:=Try.underlying152
 a50:=Try.isAgg152
 z50:=Try.sizeOf152
 v50:=Try.zeroValue152
 t53:=Try.underlying155
 a53:=Try.isAgg155
 z53:=Try.sizeOf155
 v53:=Try.zeroValue155
 t55:=Try.underlying157
 a55:=Try.isAgg157
 z55:=Try.sizeOf157
 v55:=Try.zeroValue157
 t66:=Try.underlying159
 a66:=Try.isAgg159
 z66:=Try.sizeOf159
 v66:=Try.zeroValue159
 t70:=Try.underlying163
 a70:=Try.isAgg163
 z70:=Try.sizeOf163
 v70:=Try.zeroValue163
 t76:=Try.underlying165
 a76:=Try.isAgg165
 z76:=Try.sizeOf165
 v76:=Try.zeroValue165
 t77:=Try.underlying166
 a77:=Try.isAgg166
 z77:=Try.sizeOf166
 v77:=Try.zeroValue166 }
open Go.RowKit Go.Lib Go.Sort in
theorem Try.slices_SortFunc_none {α:Type} [Inhabited α] (p:Option Addr) (cap:Nat) (fv:Value) (w:World) :
  Calls Try.prog 77 #[.slice p 0 cap,fv] w fun e w'=>e = .returned (.tuple #[])∧w'=w:=AnyF.slices_SortFunc_none Try.laysSlF06_f77 p cap fv w
open Go.RowKit Go.Lib Go.Sort in
theorem Try.slices_SortFunc_total {α:Type} [Inhabited α] (enc:α→Value) (h1:OneCell enc) (cf:α→α→Int) (hO:SWO (ltOf cf)) (g:Nat) (cb:Array Value) (blk off cap:Nat) (d:Array α) (w:World) (eg:∀args w,(callFunc g args).run Try.prog w = .ok (.enter g args) w) (hcmp:CmpLays1 Try.prog g cb enc cf blk off d.size w) (hH:Holds enc w blk off d) (hblk:blk<w.heap.size) (hsz:d.size<4611686018427387904) (hT:∀x y,(ltOf cf) x y=false→(ltOf cf) y x=false→x=y) :
  Calls Try.prog 77 #[.slice (some ⟨blk,off,none⟩) d.size cap, .func (.func g) #[] cb] w fun e w' =>
   e = .returned (.tuple #[])∧∃n os,w'=sortWorld enc w blk off n (d.toList.mergeSort fun x y => !(ltOf cf) y x).toArray os:=Any.slices_SortFunc_total Try.laysSlF6_f77 enc h1 cf hO g cb blk off cap d w eg hcmp hH hblk hsz hT
end Go.Proofs
