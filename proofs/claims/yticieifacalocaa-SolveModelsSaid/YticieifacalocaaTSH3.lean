/- Rows2 Own Norm -/
import Derived.Test.YticieifacalocaaTSH2
import Derived.Sort.Grow
import Derived.Shelf.GgSortFunc.Compose
import Derived.ArgAppend
import Derived.Lib.SlicesCompact
import Derived.Shelf.SlSortCmp.Insertion
namespace Go.Proofs.Yticieifacalocaa
open Go.RowKit Go.Sort
section
variable {α:Type} [Inhabited α] {enc:α→Value} {w:World} {base g n cap m:Nat} {e:TypeId} {xs:List Value} {os:Array Obj}
theorem heap_put (d:Array α) {cur:Array Value} {fr:Nat × Nat} (hb:w.heap[g]? = some (.cells cur e fr)) :
  (grow (putRow enc (Sort.ahead w m) g 0 d) os).heap[g]? = some (.cells (putCells enc 0 d cur) e fr):=by
 have hg:g<w.heap.size:=(yP.1 hb).1
 rw [heap_grow_old _ _ (by simpa [Sort.ahead] using hg)]
 simp [putRow,mapBlock,Sort.ahead,Array.getElem?_modify,hb,onCells]
theorem fQ (d:Array α):w.grownBy (grow (putRow enc (Sort.ahead w m) g 0 d) os) (some g):=by
 refine ⟨rfl,rfl,rfl,by simp [grow,putRow,mapBlock,Sort.ahead],fun k hk hne => ?_⟩
 rw [heap_grow_old _ _ (by simpa [putRow,mapBlock,Sort.ahead] using hk)]
 have:g≠k:=fun e=>hne (by rw [e])
 simp [putRow,mapBlock,Sort.ahead,Array.getElem?_modify,this]
theorem take_put (cur:Array Value) (ts:List α) (h:ts.length≤cur.size):(putCells enc 0 ts.toArray cur).toList.take ts.length=ts.map enc:=by
 apply List.ext_getElem?
 intro j
 by_cases hj:j<ts.length
 ·rw [uG hj,uW]
  simp [putCells,hj,show j<cur.size by omega]
 ·rw [List.getElem?_eq_none (by simp;omega),List.getElem?_eq_none (by simp;omega)]
theorem oY (h:w.ownsRow base e 1 (.slice (some ⟨g,0,none⟩) n cap) n xs) (ts:List α) (hl:ts.length=n) :
  (grow (putRow enc (Sort.ahead w m) g 0 ts.toArray) os).ownsRow base e 1 (.slice (some ⟨g,0,none⟩) n cap) n (ts.map enc):=by
 rcases h.2 with ⟨h0,_⟩|⟨g',cap',cur,hv,hbase,hh,h1,h2,h3,_⟩
 ·cases h0
 ·cases hv
  refine ⟨by simp [hl], .inr ⟨g,cap,_,rfl,hbase,heap_put _ hh,h1,h2,by simp [putCells,h3],?_⟩⟩
  rw [yA,←hl]
  exact take_put cur ts (by omega)
theorem owns_cut (h:w.ownsRow base e 1 (.slice (some ⟨g,0,none⟩) n cap) n xs) {k:Nat} (hk:k≤n) :
  w.ownsRow base e 1 (.slice (some ⟨g,0,none⟩) k cap) k (xs.take k):=by
 rcases h.2 with ⟨h0,_⟩|⟨g',cap',cur,hv,hbase,hh,h1,h2,h3,h4⟩
 ·cases h0
 ·cases hv
  refine ⟨by rw [qO,h.1];omega, .inr ⟨g,cap,cur,rfl,hbase,hh,by omega,h2,h3,?_⟩⟩
  rw [←h4,yY,yA,yA,yG hk]
theorem mY (h:w.ownsRow base e 1 (.slice (some ⟨g,0,none⟩) n cap) n xs) (ts:List α) (hx:xs=ts.map enc):Holds enc w g 0 ts.toArray:=by
 rcases h.2 with ⟨h0,_⟩|⟨g',cap',cur,hv,hbase,hh,h1,h2,h3,h4⟩
 ·cases h0
 ·cases hv
  intro j hj
  have hj':j<ts.length:=by simpa using hj
  have hlen:ts.length=n:=by have:=h.1;rw [hx] at this;simpa using this
  refine ⟨?_,by simp [World.frozen?,hh]⟩
  rw [qZ,cell_of_row w g j cur e (0,0) hh]
  have h5:(cur.toList.take (n * 1))[j]? = xs[j]? := by rw [h4]
  rw [uG (by omega),uW] at h5
  rw [h5,hx,List.getElem?_map,List.getElem?_eq_getElem hj']
  simp [hj']
theorem aK {v:Value} {base':Nat} (h:w.ownsRow base e 1 v n xs) (hb:base'≤base):w.ownsRow base' e 1 v n xs:=by
 obtain ⟨h1,h2⟩:=h
 refine ⟨h1,?_⟩
 rcases h2 with h2|⟨g,cap,cur,hv,hg,r⟩
 ·exact .inl h2
 ·exact .inr ⟨g,cap,cur,hv,by omega,r⟩
theorem lT {v:Value} (h:w.ownsRow base e 1 v n xs) (hn:0<n):∃g cap,v = .slice (some ⟨g,0,none⟩) n cap∧base≤g∧g<w.heap.size∧n≤cap∧cap≤maxLen:=by
 rcases h.2 with ⟨_,h0⟩|⟨g,cap,cur,hv,hbase,hh,h1,h2,_⟩
 ·omega
 ·exact ⟨g,cap,hv,hbase,(yP.1 hh).1,h1,h2⟩
theorem bK {v:Value} (h:w.ownsRow base e 1 v n xs):∃A cap,v = .slice A n cap:=by
 rcases h.2 with ⟨rfl,rfl⟩|⟨g,cap,cur,hv,_⟩
 ·exact ⟨none,0,rfl⟩
 ·exact ⟨_,_,hv⟩
end
section
variable {P:Program} (w:World)
theorem aN (base:Nat) (t ty e:TypeId) (i:TypeInfo) (size:Nat) (ht:P.underlying t=some (.slice e)) (hi:P.info? e=some i)
  (v:Value) (n:Nat) (xs:List Value) (hown:w.ownsRow base e size v n xs) (c:Nat):(Builtin.append_ #[t,t] ty #[v, .slice none 0 c]).run P w = .ok v w:=by
 rcases hown.2 with ⟨rfl,rfl⟩|⟨g,cap,cur,rfl,_,_,hnc,_⟩
 ·simp [Builtin.append_,run_underlying ht,sizeOf,typeInfo,hi,Builtin.lenOf,Builtin.firstCells]
 ·simp [Builtin.append_,run_underlying ht,sizeOf,typeInfo,hi,Builtin.lenOf,Builtin.firstCells,hnc,storeCells]
theorem Rd.adds {A:Option Addr} {news:List Value} {ad:Addr} (hr:Rd w A news) (hA:A=some ad):∀j u,news[j]? = some u→w.cell? (ad.add j)=some u:=by
 intro j u hu
 have hl:j<news.length:=(zG.1 hu).1
 obtain ⟨b,off,hA',_,hc⟩:=hr (by omega)
 rw [hA] at hA'
 injection hA' with hA'
 subst hA'
 have:=hc j u hu
 unfold Addr.add
 split
 ·rename_i h0;subst h0;simpa using this
 ·exact this
theorem aU (base:Nat) (t ty e:TypeId) (i:TypeInfo) (z:Value) (size bytes:Nat) (ht:P.underlying t=some (.slice e)) (hi:P.info? e=some i) (hz:i.zero=some z)
  (hsize:i.size=size) (hby:i.bytes=bytes) (hzs:z.cells.size=size) (hsz:0<size)
  (v:Value) (n:Nat) (xs:List Value) (hown:w.ownsRow base e size v n xs)
  (A:Option Addr) (m c:Nat) (news:List Value) (hl:news.length=m * size) (hr:Rd w A news) (h1:∀u∈news,u.oneCell'=true)
  (h63:n+m≤maxLen) (hbytes:(n+m) * bytes≤140737488355328) (hbase:base≤w.heap.size) :
  ∃v' w',(Builtin.append_ #[t,t] ty #[v, .slice A m c]).run P w = .ok v' w'∧w'.ownsRow base e size v' (n+m) (xs++news)∧w.grownBy w' v.ownBlock ∧
   (v'.ownBlock=v.ownBlock∨v'.ownBlock=some w.heap.size):=by
 rcases A with _|ad
 ·have hm:m=0:=by
   rcases Nat.eq_zero_or_pos m with h0|h0
   ·exact h0
   ·obtain ⟨_,_,h,_⟩:=hr (by rw [hl];exact Nat.mul_pos h0 hsz)
    cases h
  subst hm
  have hn:news=[]:=qU (by simpa using hl)
  subst hn
  exact ⟨v,w,aN w base t ty e i size ht hi v n xs hown c,by simpa using hown,World.grownBy.refl w _, .inl rfl⟩
 ·obtain ⟨v',w',hrun,h2,h3,_,h5⟩:=run_append_own_at (P:=P) w base t ty e i z size bytes ht hi hz hsize hby hzs hsz v n xs hown ad m c news hl (hr.adds w rfl) h1 h63 hbytes hbase
  exact ⟨v',w',hrun,h2,h3,h5⟩
theorem bW {ops:Array Oper} {rest:List Oper} {o:Oper} {a:Act} {Q:Exit→Act→World→Prop} (hgd:o.guard=none) (s x:Operand) (t:TypeId)
  (ho:o.op = .call { callee := .builtin .append,args := #[s,x],argTypes := #[t,t] })
  (base:Nat) (e:TypeId) (i:TypeInfo) (z:Value) (size bytes:Nat) (ht:P.underlying t=some (.slice e)) (hi:P.info? e=some i) (hz:i.zero=some z)
  (hsize:i.size=size) (hby:i.bytes=bytes) (hzs:z.cells.size=size) (hsz:0<size)
  (v:Value) (n:Nat) (xs:List Value) (hs:a.eval s=v) (hown:w.ownsRow base e size v n xs)
  (A:Option Addr) (m c:Nat) (news:List Value) (hx:a.eval x = .slice A m c) (hl:news.length=m * size) (hr:Rd w A news) (h1:∀u∈news,u.oneCell'=true)
  (h63:n+m≤maxLen) (hbytes:(n+m) * bytes≤140737488355328) (hbase:base≤w.heap.size)
  (h:∀v' w',w'.ownsRow base e size v' (n+m) (xs++news)→w.grownBy w' v.ownBlock→(v'.ownBlock=v.ownBlock∨v'.ownBlock=some w.heap.size)→wpList P ops Q rest (a.put o.dst v') w'):wpList P ops Q (o::rest) a w:=by
 refine uS hgd fun _ hK => ?_
 obtain ⟨v',w',hrun,h2,h3,h4⟩:=aU (P:=P) w base t o.type e i z size bytes ht hi hz hsize hby hzs hsz v n xs hown A m c news hl hr h1 h63 hbytes hbase
 unfold Oper.wp execOp
 simp only [ho,resolve,invoke,builtin,vN,vO,xY,kW,qC,xU,hs,hx,hrun]
 exact hK _ _ (h v' w' h2 h3 h4)
end
open Go.RowKit
theorem wV:(Try.prog.info? 3).map (fun i=>(i.zero,i.size,i.bytes))=some (some (.int .i64 0),1,8):=by kernel_rfl
theorem aM:(Try.prog.info? 33).map (fun i=>(i.zero,i.size,i.bytes))=some (some (.slice none 0 0),1,24):=by kernel_rfl
theorem fA:(Try.prog.info? 50).map (fun i=>(i.zero,i.size,i.bytes))=some (some (.agg #[.int .i64 0, .int .i64 0, .int .i64 0]),3,24):=by kernel_rfl
def Own (w':World) (base:Nat) (v:Value) (xs:List Int):Prop :=
 w'.ownsRow base 3 1 v xs.length (xs.map (Value.int .i64))∧∀x∈xs,I64 x
theorem aG {w:World} {base g n cap k:Nat} {e:TypeId} {xs:List Value} (h:w.ownsRow base e k (.slice (some ⟨g,0,none⟩) n cap) n xs):base≤g∧g<w.heap.size∧n≤cap∧cap≤maxLen∧∀j u,xs[j]? = some u→w.cell? ⟨g,0+j,none⟩=some u:=by
 rcases h.2 with ⟨h0,_⟩|⟨g',cap',cur,hv,hg,hh,hn,hm,hs,ht⟩
 ·cases h0
 ·cases hv
  refine ⟨hg,(yP.1 hh).1,hn,hm,fun j u hu => ?_⟩
  rw [qZ,cell_of_row w g j cur e (0,0) hh]
  rw [←ht,qX] at hu
  split at hu
  ·simpa using hu
  ·cases hu
theorem bG {w:World} {base n k:Nat} {e:TypeId} {v:Value} {xs:List Value} (h:w.ownsRow base e k v n xs):(v = .slice none 0 0∧n=0∧xs=[])∨∃g cap,v = .slice (some ⟨g,0,none⟩) n cap:=by
 rcases h.2 with ⟨rfl,rfl⟩|⟨g,cap,_,rfl,_⟩
 ·exact .inl ⟨rfl,rfl,qU (by simpa using h.1)⟩
 ·exact .inr ⟨g,cap,rfl⟩
theorem wB {w:World} {base n k:Nat} {e:TypeId} {v:Value} {xs:List Value} (h:w.ownsRow base e k v n xs):∃A c,v = .slice A n c∧n≤c∧c≤maxLen∧Rd w A xs:=by
 rcases bG h with ⟨rfl,rfl,rfl⟩|⟨g,cap,rfl⟩
 ·exact ⟨none,0,rfl,Nat.le_refl _,by simp [maxLen],Rd.nil _ _⟩
 ·obtain ⟨h1,h2,h3,h4,h5⟩:=aG h
  exact ⟨_,cap,rfl,h3,h4,fun _=>⟨g,0,rfl,h2,h5⟩⟩
theorem Own.ints {w:World} {base:Nat} {v:Value} {xs:List Int} (h:Own w base v xs):Ints w v xs:=by
 obtain ⟨A,c,h1,h2,h3,h4⟩:=wB h.1
 exact ⟨A,c,h1,h2,h3,h.2,h4⟩
theorem cK {w:World} {base:Nat} {v:Value} {ds:List Diff} (h:w.ownsRow base 50 3 v ds.length (ds.flatMap Diff.cells)) (hk:∀d∈ds,d.ok):Diffs w v ds:=by
 obtain ⟨A,c,h1,h2,h3,h4⟩:=wB h
 exact ⟨A,c,h1,h2,h3,hk,h4⟩
def IntsO (w:World) (P:Nat→Prop) (v:Value) (xs:List Int):Prop :=
 ∃A c,v = .slice A xs.length c∧xs.length≤c∧c≤maxLen∧(∀x∈xs,I64 x) ∧
  (0<xs.length→∃b off,A=some ⟨b,off,none⟩∧b<w.heap.size∧P b∧∀j u,(xs.map (Value.int .i64))[j]? = some u→w.cell? ⟨b,off+j,none⟩=some u)
section
variable {w w':World} {P Q:Nat→Prop} {v:Value} {xs:List Int} {base:Nat}
theorem IntsO.ints (h:IntsO w P v xs):Ints w v xs:=by
 obtain ⟨A,c,h1,h2,h3,h4,h5⟩:=h
 exact ⟨A,c,h1,h2,h3,h4,fun h0=>by obtain ⟨b,off,a1,a2,_,a4⟩:=h5 (by simpa using h0);exact ⟨b,off,a1,a2,a4⟩⟩
theorem IntsO.mono (h:IntsO w P v xs) (hP:∀b,b<w.heap.size→P b→Q b):IntsO w Q v xs:=by
 obtain ⟨A,c,h1,h2,h3,h4,h5⟩:=h
 exact ⟨A,c,h1,h2,h3,h4,fun h0=>by obtain ⟨b,off,a1,a2,a3,a4⟩:=h5 h0;exact ⟨b,off,a1,a2,hP b a2 a3,a4⟩⟩
theorem IntsO.grown {row:Option Nat} (h:IntsO w P v xs) (hg:w.grownBy w' row) (hne:∀b,P b→some b≠row):IntsO w' P v xs:=by
 obtain ⟨A,c,h1,h2,h3,h4,h5⟩:=h
 exact ⟨A,c,h1,h2,h3,h4,fun h0=>by obtain ⟨b,off,a1,a2,a3,a4⟩:=h5 h0;exact ⟨b,off,a1,zZ a2 hg.size,a3,fun j u hu=>hg.cell (a4 j u hu) (hne b a3)⟩⟩
theorem IntsO.keep (h:IntsO w P v xs) (hb:Below w.heap.size w w'):IntsO w' P v xs:=by
 obtain ⟨A,c,h1,h2,h3,h4,h5⟩:=h
 exact ⟨A,c,h1,h2,h3,h4,fun h0=>by obtain ⟨b,off,a1,a2,a3,a4⟩:=h5 h0;exact ⟨b,off,a1,zZ a2 hb.size,a3,fun j u hu=>(hb.cell (p:=⟨b,off+j,none⟩) a2).trans (a4 j u hu)⟩⟩
theorem Own.intsO (h:Own w base v xs) (hP:∀b,base≤b→b<w.heap.size→v.ownBlock=some b→P b):IntsO w P v xs:=by
 rcases bG h.1 with ⟨rfl,h0,_⟩|⟨g,cap,rfl⟩
 ·obtain rfl:xs=[]:=qU h0
  exact ⟨none,0,rfl,by simp,by simp [maxLen],by simp,by simp⟩
 ·obtain ⟨h1,h2,h3,h4,h5⟩:=aG h.1
  exact ⟨_,cap,rfl,h3,h4,h.2,fun _=>⟨g,0,rfl,h2,hP g h1 h2 rfl,h5⟩⟩
end
def OwnMat (w:World) (base:Nat) (P:Nat→Prop) (v:Value) (us:List Value) (xss:List (List Int)):Prop :=
 w.ownsRow base 33 1 v us.length us∧us.length=xss.length∧∀(k:Nat) (u:Value) (xs:List Int),us[k]? = some u→xss[k]? = some xs→IntsO w (fun b=>P b∧some b≠v.ownBlock) u xs
section
variable {w w':World} {P Q:Nat→Prop} {v u:Value} {us:List Value} {xss:List (List Int)} {xs:List Int} {base:Nat}
theorem OwnMat.nil (w:World) (base:Nat) (P:Nat→Prop):OwnMat w base P (.slice none 0 0) [] []:=⟨qE _ _ _ _,rfl,fun k u xs h=>by simp at h⟩
theorem OwnMat.mat (h:OwnMat w base P v us xss):Mat w v xss:=by
 obtain ⟨h1,h2,h3⟩:=h
 obtain ⟨A,c,q1,q2,q3,q4⟩:=wB h1
 exact ⟨A,c,us,by rw [q1,h2],by omega,q3,h2,q4,fun k u xs a b=>(h3 k u xs a b).ints⟩
theorem OwnMat.grown {row:Option Nat} (h:OwnMat w base P v us xss) (hg:w.grownBy w' row) (hv:v.ownBlock=none∨v.ownBlock≠row) (hne:∀b,P b→some b≠row):OwnMat w' base P v us xss :=
 ⟨h.1.kept hg hv,h.2.1,fun k u xs a b=>(h.2.2 k u xs a b).grown hg fun b hb=>hne b hb.1⟩
theorem OwnMat.mono (h:OwnMat w base P v us xss) (hP:∀b,b<w.heap.size→P b→Q b):OwnMat w base Q v us xss :=
 ⟨h.1,h.2.1,fun k u xs a b=>(h.2.2 k u xs a b).mono fun b hb hp=>⟨hP b hb hp.1,hp.2⟩⟩
theorem gS {w w':World} {base n k:Nat} {e:TypeId} {v:Value} {xs:List Value} (h:w.ownsRow base e k v n xs) (hb:Below w.heap.size w w'):w'.ownsRow base e k v n xs:=by
 refine ⟨h.1,?_⟩
 rcases h.2 with hn|⟨g,cap,cur,rfl,hg,hgg,rest⟩
 ·exact .inl hn
 ·exact .inr ⟨g,cap,cur,rfl,hg,(hb.block g (yP.1 hgg).1).trans hgg,rest⟩
theorem OwnMat.keep (h:OwnMat w base P v us xss) (hb:Below w.heap.size w w'):OwnMat w' base P v us xss :=
 ⟨gS h.1 hb,h.2.1,fun k u xs a b=>(h.2.2 k u xs a b).keep hb⟩
theorem gZ (w:World) (o:Obj):w.grownBy (w.alloc o) none:=World.grownBy_alloc w o none
theorem OwnMat.push {v':Value} {o:Obj} (h:OwnMat w base P v us xss) (hu:IntsO w (fun b=>P b∧some b≠v.ownBlock) u xs)
  (ho:w'.ownsRow base 33 1 v' (us.length+1) (us++[u])) (hg:(w.alloc o).grownBy w' v.ownBlock) (hat:v'.ownBlock=v.ownBlock∨v'.ownBlock=some (w.alloc o).heap.size):OwnMat w' base P v' (us++[u]) (xss++[xs]):=by
 have key:∀{u xs},IntsO w (fun b=>P b∧some b≠v.ownBlock) u xs→IntsO w' (fun b=>P b∧some b≠v'.ownBlock) u xs:=by
  intro u xs h
  refine IntsO.mono (P:=fun b=>(P b∧some b≠v.ownBlock)∧b<w.heap.size) ?_ fun b _ hb=>⟨hb.1.1,?_⟩
  ·have h1:IntsO w (fun b=>(P b∧some b≠v.ownBlock)∧b<w.heap.size) u xs:=h.mono fun b h1 h2=>⟨h2,h1⟩
   exact (h1.grown (gZ w o) (fun b _=>by simp)).grown hg fun b hb=>hb.1.2
  ·rcases hat with e|e<;>rw [e]
   ·exact hb.1.2
   ·simp;have:=hb.2;omega
 refine ⟨by simpa using ho,by simp [h.2.1],fun k u' xs' a b => ?_⟩
 by_cases hk:k<us.length
 ·rw [zO hk] at a
  rw [zO (by rw [←h.2.1];exact hk)] at b
  exact key (h.2.2 k u' xs' a b)
 ·rw [zL (by omega)] at a
  rw [zL (by rw [←h.2.1];omega),←h.2.1] at b
  have:k-us.length=0:=by
   have:=(zG.1 a).1
   simp at this;omega
  rw [this] at a b
  simp at a b
  subst a b
  exact key hu
end
theorem wY (w:World) (t:TypeId) (cs:List Value) {B:Nat} (hB:w.heap.size=B):∀j x,cs[j]? = some x→(w.alloc (.cells cs.toArray t)).cell? ((⟨B,0,none⟩:Addr).add j)=some x:=by
 intro j x hx
 subst hB
 have h:=(Blk.new w t cs.toArray).cell j
 rw [zA,hx] at h
 unfold Addr.add
 split
 ·rename_i h0;subst h0;exact h
 ·rw [qZ];exact h
theorem wR (w:World) (u:Value) (t:TypeId):∀j x,[u][j]? = some x→(w.alloc (.cells #[u] t)).cell? ((⟨w.heap.size,0,none⟩:Addr).add j)=some x:=wY w t [u] rfl
theorem Blk.grown {w w':World} {g:Nat} {t:TypeId} {cs:Array Value} {row:Option Nat} (h:Blk w g t cs) (hg:w.grownBy w' row) (hne:some g≠row):Blk w' g t cs:=(hg.block g h.lt hne).trans h
theorem jY (w:World) (g i:Nat) (u:Value):w.grownBy (w.setCell ⟨g,i,none⟩ u) (some g) :=
 ⟨rfl,rfl,rfl,by simp,fun k _ hne=>kI w ⟨g,i,none⟩ u k (by simpa using hne)⟩
theorem gG {a b c:World} {row:Option Nat} (h1:a.grownBy b row) (h2:b.grownBy c row):a.grownBy c row :=
 ⟨h2.os.trans h1.os,h2.tape.trans h1.tape,h2.output.trans h1.output,qA h1.size h2.size,fun k hk hne=>(h2.block k (zZ hk h1.size) hne).trans (h1.block k hk hne)⟩
theorem aY {w:World} {base n k g:Nat} {e:TypeId} {v:Value} {xs:List Value} (h:w.ownsRow base e k v n xs) (hg:g<base):v.ownBlock=none∨v.ownBlock≠some g:=by
 cases e:v.ownBlock with
 | none=>exact .inl rfl
 | some g'=>right;have:=h.lt g' e;simp;omega
theorem pB (v:Value):v.ownBlock=none∨v.ownBlock≠none:=jP _
theorem own_ne2 {v u:Value} {B:Nat} (hv:∀g,v.ownBlock=some g→g<B) (hu:∀g,u.ownBlock=some g→B≤g):v.ownBlock=none∨v.ownBlock≠u.ownBlock:=by
 cases e:v.ownBlock with
 | none=>exact .inl rfl
 | some g=>right;intro e';have:=hv g e;have:=hu g e'.symm;omega
def Apart (u v:Value):Prop:=∀g,u.ownBlock=some g→v.ownBlock≠some g
theorem Apart.nil_left (v:Value):Apart (.slice none 0 0) v:=fun g h=>by cases h
theorem Apart.symm {u v:Value} (h:Apart u v):Apart v u:=fun g e1 e2=>h g e2 e1
theorem Apart.ne {u v:Value} (h:Apart u v):u.ownBlock=none∨u.ownBlock≠v.ownBlock:=by
 cases e:u.ownBlock with
 | none=>exact .inl rfl
 | some g=>right;exact fun e'=>h g e e'.symm
theorem Apart.append {u v v':Value} {n:Nat} (h:Apart u v) (hu:∀g,u.ownBlock=some g→g<n) (hat:v'.ownBlock=v.ownBlock∨v'.ownBlock=some n):Apart u v':=by
 intro g e1 e2
 rcases hat with h1|h1
 ·exact h g e1 (h1.symm.trans e2)
 ·rw [h1] at e2;injection e2 with e2;have:=hu g e1;omega
def wS (x:Int):Bool:=x == 0 || x == -9223372036854775808
def gL (x:Int):List Int→Option (List Int)
 | []=>some [x]
 | y::r=>if y.natAbs<x.natAbs then (gL x r).map (y::·) else if y=x then some (y::r) else if y = -x then none else some (x::y::r)
def dQ (acc:Option (List Int)) (x:Int):Option (List Int):=acc.bind fun l=>if wS x then none else gL x l
def wJ (xs:List Int):Option (List Int):=xs.foldl dQ (some [])
theorem norm_snoc (xs:List Int) (x:Int):wJ (xs++[x])=dQ (wJ xs) x:=by simp [wJ]
def Up (l:List Int):Prop:=l.Pairwise fun a b=>a.natAbs<b.natAbs
theorem pN {x:Int} {l l':List Int} (hx:x≠0) (hl:Up l) (h:gL x l=some l'):Up l'∧∀z,z∈l'↔z=x∨z∈l:=by
 induction l generalizing l' with
 | nil=>simp [gL] at h;subst h;simp [Up]
 | cons y r ih =>
  obtain ⟨h1,h2⟩:=yX.1 hl
  rw [gL] at h
  by_cases a:y.natAbs<x.natAbs
  ·rw [if_pos a] at h
   obtain ⟨l2,hl2,rfl⟩:=qR.1 h
   obtain ⟨i1,i2⟩:=ih h2 hl2
   refine ⟨yX.2 ⟨fun z hz => ?_,i1⟩,fun z => ?_⟩
   ·rcases (i2 z).1 hz with rfl|hz
    ·exact a
    ·exact h1 z hz
   ·simp only [zV,i2]
    constructor<;>rintro (h|h|h)<;>simp [h]
  ·rw [if_neg a] at h
   by_cases b:y=x
   ·rw [if_pos b] at h
    injection h with h
    subst h
    exact ⟨hl,fun z=>by subst b;simp⟩
   ·rw [if_neg b] at h
    by_cases c:y = -x
    ·rw [if_pos c] at h;cases h
    ·rw [if_neg c] at h
     injection h with h
     subst h
     refine ⟨yX.2 ⟨fun z hz => ?_,hl⟩,fun z=>by simp⟩
     rcases zV.1 hz with rfl|hz
     ·omega
     ·have:=h1 z hz;omega
theorem pG {x:Int} {l:List Int} (h:gL x l=none) : -x∈l:=by
 induction l with
 | nil=>simp [gL] at h
 | cons y r ih =>
  rw [gL] at h
  by_cases a:y.natAbs<x.natAbs
  ·rw [if_pos a] at h
   exact jC _ (ih (by simpa using h))
  ·rw [if_neg a] at h
   by_cases b:y=x
   ·rw [if_pos b] at h;cases h
   ·rw [if_neg b] at h
    by_cases c:y = -x
    ·rw [c];simp
    ·rw [if_neg c] at h;cases h
def fL (xs:List Int):Option (List Int)→Prop
 | none=>(∃x∈xs,wS x=true)∨∃x∈xs, -x∈xs∧x≠0
 | some l=>Up l∧(∀z,z∈l↔z∈xs)∧∀x∈xs,wS x=false
theorem dT {x:Int} (h:wS x=false):x≠0:=by
 rintro rfl;simp [wS] at h
theorem rD (ys:List Int):∀(pre:List Int) (acc:Option (List Int)),fL pre acc→fL (pre++ys) (ys.foldl dQ acc):=by
 induction ys with
 | nil=>intro pre acc h;simpa using h
 | cons y r ih =>
  intro pre acc h
  have key:fL (pre++[y]) (dQ acc y):=by
   cases acc with
   | none =>
    show fL _ none
    rcases h with ⟨x,hx,hb⟩|⟨x,hx,hn⟩
    ·exact .inl ⟨x,by simp [hx],hb⟩
    ·exact .inr ⟨x,by simp [hx],by simp [hn.1],hn.2⟩
   | some l =>
    obtain ⟨h1,h2,h3⟩:=h
    show fL _ (if wS y=true then none else gL y l)
    by_cases hb:wS y=true
    ·rw [if_pos hb];exact .inl ⟨y,by simp,hb⟩
    ·rw [if_neg hb]
     have hb':wS y=false:=by simpa using hb
     have hy:=dT hb'
     cases hi:gL y l with
     | none=>exact .inr ⟨y,by simp,by simp [(h2 _).1 (pG hi)],hy⟩
     | some l' =>
      obtain ⟨u1,u2⟩:=pN hy h1 hi
      refine ⟨u1,fun z => ?_,fun x hx => ?_⟩
      ·rw [u2,h2];simp [or_comm]
      ·rcases zK.1 hx with hx|hx
       ·exact h3 x hx
       ·simp at hx;subst hx;exact hb'
  have:=ih (pre++[y]) (dQ acc y) key
  simpa using this
theorem gD (xs:List Int):fL xs (wJ xs):=by
 have:=rD xs [] (some []) ⟨List.Pairwise.nil,by simp,by simp⟩
 simpa [wJ] using this
theorem nB {l:List Int} (h:Up l) {x:Int} (hx:x∈l) (hn : -x∈l):x=0:=by
 obtain ⟨i,hi,e1⟩:=qL hx
 obtain ⟨j,hj,e2⟩:=qL hn
 rcases xJ i j with hij|hij|hij
 ·have:=qM.1 h i j hi hj hij
  rw [e1,e2] at this;omega
 ·subst hij;rw [e1] at e2;omega
 ·have:=qM.1 h j i hj hi hij
  rw [e1,e2] at this;omega
theorem mO {l m:List Int} (hl:Up l) (hm:Up m) (h:∀z,z∈l↔z∈m):l=m:=by
 have nd:∀{k:List Int},Up k→k.Nodup:=fun hk=>hk.imp fun h e=>by subst e;omega
 refine List.Perm.eq_of_pairwise (le:=fun a b:Int=>a.natAbs<b.natAbs) (fun a b _ _ h1 h2=>by omega) hl hm ?_
 exact (List.perm_ext_iff_of_nodup (nd hl) (nd hm)).2 h
theorem eL {xs l:List Int} (h1:Up l) (h2:∀z,z∈l↔z∈xs) (h3:∀x∈xs,wS x=false):wJ xs=some l:=by
 have hs:=gD xs
 cases hn:wJ xs with
 | none =>
  rw [hn] at hs
  rcases hs with ⟨x,hx,hb⟩|⟨x,hx,ho,h0⟩
  ·rw [h3 x hx] at hb;cases hb
  ·exact absurd (nB h1 ((h2 _).2 hx) ((h2 _).2 ho)) h0
 | some m =>
  rw [hn] at hs
  obtain ⟨u1,u2,_⟩:=hs
  rw [mO u1 h1 fun z=>(u2 z).trans (h2 z).symm]
theorem dX {xs:List Int} (h:(∃x∈xs,wS x=true)∨∃x∈xs, -x∈xs∧x≠0):wJ xs=none:=by
 have hs:=gD xs
 cases hn:wJ xs with
 | none=>rfl
 | some m =>
  rw [hn] at hs
  obtain ⟨u1,u2,u3⟩:=hs
  rcases h with ⟨x,hx,hb⟩|⟨x,hx,ho,h0⟩
  ·rw [u3 x hx] at hb;cases hb
  ·exact absurd (nB u1 ((u2 _).2 hx) ((u2 _).2 ho)) h0
def litLe (a b:Int):Prop:=a.natAbs<b.natAbs∨a.natAbs=b.natAbs∧a≤b
theorem fI (d:Array Int) (hs:∀i j,i<j→j<d.size→litLe d[i]! d[j]!):∀m,m≤d.size →
  (∀x,x∈Lib.compactUpTo d m↔∃j,j<m∧d[j]! = x)∧(Lib.compactUpTo d m).Pairwise (fun a b=>litLe a b∧a≠b):=by
 intro m
 induction m with
 | zero=>intro _;simp [Lib.compactUpTo]
 | succ m ih =>
  intro hm
  obtain ⟨i1,i2⟩:=ih (by omega)
  rw [Lib.compactUpTo_succ]
  by_cases hk:Lib.keeps d m=true
  ·rw [if_pos hk]
   constructor
   ·intro x
    simp only [zK,i1,zH]
    constructor
    ·rintro (⟨j,hj,rfl⟩|rfl)
     ·exact ⟨j,by omega,rfl⟩
     ·exact ⟨m,by omega,rfl⟩
    ·rintro ⟨j,hj,rfl⟩
     by_cases e:j=m
     ·subst e;exact .inr rfl
     ·exact .inl ⟨j,by omega,rfl⟩
   ·refine kS.2 ⟨i2,by simp,fun a ha b hb => ?_⟩
    simp only [zH] at hb
    subst hb
    obtain ⟨j,hj,rfl⟩:=(i1 a).1 ha
    refine ⟨hs j m hj (by omega),fun e => ?_⟩
    simp only [Lib.keeps,qI] at hk
    rcases hk with hk|hk
    ·omega
    ·by_cases e2:j=m-1
     ·subst e2;exact hk e.symm
     ·have h1:=hs j (m-1) (by omega) (by omega)
      have h2:=hs (m-1) m (by omega) (by omega)
      rw [e] at h1
      unfold litLe at h1 h2
      exact hk (by omega)
  ·rw [if_neg hk]
   simp only [yV]
   refine ⟨fun x => ?_,i2⟩
   rw [i1]
   constructor
   ·rintro ⟨j,hj,rfl⟩;exact ⟨j,by omega,rfl⟩
   ·rintro ⟨j,hj,rfl⟩
    by_cases e:j=m
    ·subst e
     have hk':¬(j=0∨d[j]! ≠ d[j-1]!):=by simpa [Lib.keeps] using hk
     rw [jG,Classical.not_not] at hk'
     exact ⟨j-1,by omega,hk'.2.symm⟩
    ·exact ⟨j,by omega,rfl⟩
theorem eT (zs:List Int) (hs:zs.Pairwise litLe):(∀x,x∈Lib.compact zs↔x∈zs)∧(Lib.compact zs).Pairwise (fun a b=>litLe a b∧a≠b):=by
 have hget:∀j,j<zs.length→zs.toArray[j]! = zs[j]! := fun j hj=>by simp [hj]
 obtain ⟨h1,h2⟩:=fI zs.toArray (fun i j hij hj=>by
  have hj':j<zs.length:=by simpa using hj
  have:=qM.1 hs i j (by omega) hj' hij
  rw [hget i (by omega),hget j hj',xF,xF,List.getElem?_eq_getElem (by omega:i<zs.length),List.getElem?_eq_getElem hj']
  exact this) zs.length (by simp)
 refine ⟨fun x => ?_,h2⟩
 refine (h1 x).trans ⟨?_,fun hx => ?_⟩
 ·rintro ⟨j,hj,rfl⟩
  rw [hget j hj,xF,List.getElem?_eq_getElem hj]
  exact xG hj
 ·obtain ⟨j,hj,rfl⟩:=qL hx
  exact ⟨j,hj,by rw [hget j hj,xF,List.getElem?_eq_getElem hj];rfl⟩
def Opp (t:List Int):Prop:=∃i a b,0<i∧t[i-1]? = some a∧t[i]? = some b∧a = -b
theorem lK {xs zs:List Int} (hg:∀x∈xs,wS x=false) (hp:∀x,x∈zs↔x∈xs) (hs:zs.Pairwise litLe) :
  (Opp (Lib.compact zs)→wJ xs=none)∧(¬Opp (Lib.compact zs)→wJ xs=some (Lib.compact zs)):=by
 obtain ⟨h1,h2⟩:=eT zs hs
 constructor
 ·rintro ⟨i,a,b,h0,ha,hb,e⟩
  have ma:=(hp _).1 ((h1 _).1 (List.mem_of_getElem? ha))
  have mb:=(hp _).1 ((h1 _).1 (List.mem_of_getElem? hb))
  refine dX (.inr ⟨b,mb,by rw [←e];exact ma,dT (hg b mb)⟩)
 ·intro hno
  refine eL ?_ (fun z=>(h1 z).trans (hp z)) hg
  unfold Up
  rw [qM] at h2 ⊢
  have step:∀i (h:i+1<(Lib.compact zs).length),((Lib.compact zs)[i]).natAbs<((Lib.compact zs)[i+1]).natAbs:=by
   intro i h
   obtain ⟨hle,hne⟩:=h2 i (i+1) (by omega) h (by omega)
   rcases hle with hlt|⟨he,_⟩
   ·exact hlt
   ·exact absurd ⟨i+1,_,_,by omega,List.getElem?_eq_getElem (by omega:i<_),List.getElem?_eq_getElem h,by omega⟩ hno
  intro i j hi hj hij
  obtain ⟨k,rfl⟩:∃k,j=i+1+k:=⟨j-i-1,by omega⟩
  induction k with
  | zero=>exact step i hj
  | succ k ih=>exact Nat.lt_trans (ih (by omega) (by omega)) (step (i+1+k) hj)
theorem insAbs_len {x:Int} {l l':List Int} (h:gL x l=some l'):l'.length≤l.length+1:=by
 induction l generalizing l' with
 | nil=>simp [gL] at h;subst h;simp
 | cons y r ih =>
  rw [gL] at h
  split at h
  ·obtain ⟨l2,hl2,rfl⟩:=qR.1 h
   have:=ih hl2
   simp;omega
  ·split at h
   ·injection h with h;subst h;simp
   ·split at h
    ·cases h
    ·injection h with h;subst h;simp
theorem fold_len (ys:List Int):∀(acc:Option (List Int)) (n:Nat),(∀l,acc=some l→l.length≤n)→∀l,ys.foldl dQ acc=some l→l.length≤n+ys.length:=by
 induction ys with
 | nil=>intro acc n h l hl;simpa using h l hl
 | cons y r ih =>
  intro acc n h l hl
  have:=ih (dQ acc y) (n+1) (fun m hm=>by
   cases acc with
   | none=>cases hm
   | some k =>
    have hm':(if wS y=true then none else gL y k)=some m:=hm
    split at hm'
    ·cases hm'
    ·have:=insAbs_len hm'
     have:=h k rfl
     omega) l hl
  simp only [qJ];omega
theorem oO {xs l:List Int} (h:wJ xs=some l):l.length≤xs.length:=by
 have:=fold_len xs (some []) 0 (by simp) l h
 omega
theorem rS {xs l:List Int} (h:wJ xs=some l) {P:Int→Prop} (hx:∀x∈xs,P x):∀x∈l,P x:=by
 have hs:=gD xs
 rw [h] at hs
 exact fun x hm=>hx x ((hs.2.1 x).1 hm)
structure Lit1 where
 val:Int
 ok : -9223372036854775807≤val∧val≤9223372036854775807∧val≠0
instance:Inhabited Lit1:=⟨⟨1,by omega⟩⟩
def encL (x:Lit1):Value := .int .i64 x.val
def cmpL (x y:Lit1):Int :=
 if x.val.natAbs≠y.val.natAbs then (x.val.natAbs:Int)-y.val.natAbs else if x.val<y.val then -1 else if y.val<x.val then 1 else 0
theorem ltL (x y:Lit1):ltOf cmpL x y=decide (x.val.natAbs<y.val.natAbs∨x.val.natAbs=y.val.natAbs∧x.val<y.val):=by
 unfold ltOf
 apply vT.2
 unfold cmpL
 split
 ·omega
 ·split
  ·omega
  ·split<;>omega
theorem swoL:Sort.SWO (ltOf cmpL) where
 irrefl x:=by rw [ltL];simp
 trans x y z h1 h2:=by rw [ltL] at *;simp only [qI] at *;omega
 ntrans x y z h1 h2:=by rw [ltL] at *;simp only [decide_eq_false_iff_not] at *;omega
theorem totL (x y:Lit1) (h1:ltOf cmpL x y=false) (h2:ltOf cmpL y x=false):x=y:=by
 rw [ltL] at h1 h2
 simp only [decide_eq_false_iff_not] at h1 h2
 cases x;cases y;simp only at h1 h2;congr 1;omega
theorem sortedL (l:List Lit1):((l.mergeSort fun x y => !ltOf cmpL y x).map Lit1.val).Pairwise litLe∧∀x,x∈(l.mergeSort fun x y => !ltOf cmpL y x).map Lit1.val↔x∈l.map Lit1.val:=by
 constructor
 ·rw [yO]
  refine (List.pairwise_mergeSort (le:=fun x y => !ltOf cmpL y x) ?_ ?_ l).imp ?_
  ·intro a b c h1 h2
   simp only [vK] at *
   exact swoL.ntrans _ _ _ h2 h1
  ·intro a b
   rw [ltL,ltL]
   simp only [Bool.or_eq_true,vK,decide_eq_false_iff_not]
   omega
  ·intro a b h
   simp only [vK] at h
   rw [ltL] at h
   simp only [decide_eq_false_iff_not] at h
   unfold litLe
   omega
 ·intro x
  simp only [List.mem_map]
  constructor
  ·rintro ⟨y,hy,rfl⟩;exact ⟨y,(jK _ _).mem_iff.1 hy,rfl⟩
  ·rintro ⟨y,hy,rfl⟩;exact ⟨y,(jK _ _).mem_iff.2 hy,rfl⟩
theorem lits_of (xs:List Int) (h:∀x∈xs, -9223372036854775807≤x∧x≤9223372036854775807∧x≠0):∃l:List Lit1,l.map Lit1.val=xs:=by
 induction xs with
 | nil=>exact ⟨[],rfl⟩
 | cons x r ih =>
  obtain ⟨l,hl⟩:=ih fun y hy=>h y (by simp [hy])
  exact ⟨⟨x,h x (by simp)⟩::l,by simp [hl]⟩
end Go.Proofs.Yticieifacalocaa
