/- Rows2 Own -/
import Derived.Test.YticieifacalocaaTSG2
import Derived.Sort.Grow
import Derived.Shelf.GgSortFunc.Compose
import Derived.ArgAppend
namespace Go.Proofs.Yticieifacalocaa
open Go.RowKit Go.Sort
section
variable {α:Type} [Inhabited α] {enc:α→Value} {w:World} {base g n cap m:Nat} {e:TypeId} {xs:List Value} {os:Array Obj}
theorem heap_put (d:Array α) {cur:Array Value} {fr:Nat × Nat} (hb:w.heap[g]? = some (.cells cur e fr)) :
  (grow (putRow enc (Sort.ahead w m) g 0 d) os).heap[g]? = some (.cells (putCells enc 0 d cur) e fr):=by
 have hg:g<w.heap.size:=(yP.1 hb).1
 rw [heap_grow_old _ _ (by simpa [Sort.ahead] using hg)]
 simp [putRow,mapBlock,Sort.ahead,Array.getElem?_modify,hb,onCells]
theorem iJ (d:Array α):w.grownBy (grow (putRow enc (Sort.ahead w m) g 0 d) os) (some g):=by
 refine ⟨rfl,rfl,rfl,by simp [grow,putRow,mapBlock,Sort.ahead],fun k hk hne => ?_⟩
 rw [heap_grow_old _ _ (by simpa [putRow,mapBlock,Sort.ahead] using hk)]
 have:g≠k:=fun e=>hne (by rw [e])
 simp [putRow,mapBlock,Sort.ahead,Array.getElem?_modify,this]
theorem take_put (cur:Array Value) (ts:List α) (h:ts.length≤cur.size):(putCells enc 0 ts.toArray cur).toList.take ts.length=ts.map enc:=by
 apply List.ext_getElem?
 intro j
 by_cases hj:j<ts.length
 ·rw [uF hj,uW]
  simp [putCells,hj,show j<cur.size by omega]
 ·rw [List.getElem?_eq_none (by simp;omega),List.getElem?_eq_none (by simp;omega)]
theorem sD (h:w.ownsRow base e 1 (.slice (some ⟨g,0,none⟩) n cap) n xs) (ts:List α) (hl:ts.length=n) :
  (grow (putRow enc (Sort.ahead w m) g 0 ts.toArray) os).ownsRow base e 1 (.slice (some ⟨g,0,none⟩) n cap) n (ts.map enc):=by
 rcases h.2 with ⟨h0,_⟩|⟨g',cap',cur,hv,hbase,hh,h1,h2,h3,_⟩
 ·cases h0
 ·cases hv
  refine ⟨by simp [hl], .inr ⟨g,cap,_,rfl,hbase,heap_put _ hh,h1,h2,by simp [putCells,h3],?_⟩⟩
  rw [qW,←hl]
  exact take_put cur ts (by omega)
theorem owns_cut (h:w.ownsRow base e 1 (.slice (some ⟨g,0,none⟩) n cap) n xs) {k:Nat} (hk:k≤n) :
  w.ownsRow base e 1 (.slice (some ⟨g,0,none⟩) k cap) k (xs.take k):=by
 rcases h.2 with ⟨h0,_⟩|⟨g',cap',cur,hv,hbase,hh,h1,h2,h3,h4⟩
 ·cases h0
 ·cases hv
  refine ⟨by rw [qL,h.1];omega, .inr ⟨g,cap,cur,rfl,hbase,hh,by omega,h2,h3,?_⟩⟩
  rw [←h4,xA,qW,qW,yF hk]
theorem nY (h:w.ownsRow base e 1 (.slice (some ⟨g,0,none⟩) n cap) n xs) (ts:List α) (hx:xs=ts.map enc):Holds enc w g 0 ts.toArray:=by
 rcases h.2 with ⟨h0,_⟩|⟨g',cap',cur,hv,hbase,hh,h1,h2,h3,h4⟩
 ·cases h0
 ·cases hv
  intro j hj
  have hj':j<ts.length:=by simpa using hj
  have hlen:ts.length=n:=by have:=h.1;rw [hx] at this;simpa using this
  refine ⟨?_,by simp [World.frozen?,hh]⟩
  rw [qY,cell_of_row w g j cur e (0,0) hh]
  have h5:(cur.toList.take (n * 1))[j]? = xs[j]? := by rw [h4]
  rw [uF (by omega),uW] at h5
  rw [h5,hx,List.getElem?_map,List.getElem?_eq_getElem hj']
  simp [hj']
theorem aQ {v:Value} {base':Nat} (h:w.ownsRow base e 1 v n xs) (hb:base'≤base):w.ownsRow base' e 1 v n xs:=by
 obtain ⟨h1,h2⟩:=h
 refine ⟨h1,?_⟩
 rcases h2 with h2|⟨g,cap,cur,hv,hg,r⟩
 ·exact .inl h2
 ·exact .inr ⟨g,cap,cur,hv,by omega,r⟩
theorem iY {v:Value} (h:w.ownsRow base e 1 v n xs) (hn:0<n):∃g cap,v = .slice (some ⟨g,0,none⟩) n cap∧base≤g∧g<w.heap.size∧n≤cap∧cap≤maxLen:=by
 rcases h.2 with ⟨_,h0⟩|⟨g,cap,cur,hv,hbase,hh,h1,h2,_⟩
 ·omega
 ·exact ⟨g,cap,hv,hbase,(yP.1 hh).1,h1,h2⟩
theorem bH {v:Value} (h:w.ownsRow base e 1 v n xs):∃A cap,v = .slice A n cap:=by
 rcases h.2 with ⟨rfl,rfl⟩|⟨g,cap,cur,hv,_⟩
 ·exact ⟨none,0,rfl⟩
 ·exact ⟨_,_,hv⟩
end
section
variable {P:Program} (w:World)
theorem hJ (base:Nat) (t ty e:TypeId) (i:TypeInfo) (size:Nat) (ht:P.underlying t=some (.slice e)) (hi:P.info? e=some i)
  (v:Value) (n:Nat) (xs:List Value) (hown:w.ownsRow base e size v n xs) (c:Nat):(Builtin.append_ #[t,t] ty #[v, .slice none 0 c]).run P w = .ok v w:=by
 rcases hown.2 with ⟨rfl,rfl⟩|⟨g,cap,cur,rfl,_,_,hnc,_⟩
 ·simp [Builtin.append_,run_underlying ht,sizeOf,typeInfo,hi,Builtin.lenOf,Builtin.firstCells]
 ·simp [Builtin.append_,run_underlying ht,sizeOf,typeInfo,hi,Builtin.lenOf,Builtin.firstCells,hnc,storeCells]
theorem Rd.adds {A:Option Addr} {news:List Value} {ad:Addr} (hr:Rd w A news) (hA:A=some ad):∀j u,news[j]? = some u→w.cell? (ad.add j)=some u:=by
 intro j u hu
 have hl:j<news.length:=(zG.1 hu).1
 obtain ⟨b,off,hA',_,hc⟩:=hr (by omega)
 rw [hA] at hA'
 injection hA' with hA'
 subst hA'
 have:=hc j u hu
 unfold Addr.add
 split
 ·rename_i h0;subst h0;simpa using this
 ·exact this
theorem mZ (base:Nat) (t ty e:TypeId) (i:TypeInfo) (z:Value) (size bytes:Nat) (ht:P.underlying t=some (.slice e)) (hi:P.info? e=some i) (hz:i.zero=some z)
  (hsize:i.size=size) (hby:i.bytes=bytes) (hzs:z.cells.size=size) (hsz:0<size)
  (v:Value) (n:Nat) (xs:List Value) (hown:w.ownsRow base e size v n xs)
  (A:Option Addr) (m c:Nat) (news:List Value) (hl:news.length=m * size) (hr:Rd w A news) (h1:∀u∈news,u.oneCell'=true)
  (h63:n+m≤maxLen) (hbytes:(n+m) * bytes≤140737488355328) (hbase:base≤w.heap.size) :
  ∃v' w',(Builtin.append_ #[t,t] ty #[v, .slice A m c]).run P w = .ok v' w'∧w'.ownsRow base e size v' (n+m) (xs++news)∧w.grownBy w' v.ownBlock ∧
   (v'.ownBlock=v.ownBlock∨v'.ownBlock=some w.heap.size):=by
 rcases A with _|ad
 ·have hm:m=0:=by
   rcases Nat.eq_zero_or_pos m with h0|h0
   ·exact h0
   ·obtain ⟨_,_,h,_⟩:=hr (by rw [hl];exact Nat.mul_pos h0 hsz)
    cases h
  subst hm
  have hn:news=[]:=qS (by simpa using hl)
  subst hn
  exact ⟨v,w,hJ w base t ty e i size ht hi v n xs hown c,by simpa using hown,World.grownBy.refl w _, .inl rfl⟩
 ·obtain ⟨v',w',hrun,h2,h3,_,h5⟩:=run_append_own_at (P:=P) w base t ty e i z size bytes ht hi hz hsize hby hzs hsz v n xs hown ad m c news hl (hr.adds w rfl) h1 h63 hbytes hbase
  exact ⟨v',w',hrun,h2,h3,h5⟩
theorem cH {ops:Array Oper} {rest:List Oper} {o:Oper} {a:Act} {Q:Exit→Act→World→Prop} (hgd:o.guard=none) (s x:Operand) (t:TypeId)
  (ho:o.op = .call { callee := .builtin .append,args := #[s,x],argTypes := #[t,t] })
  (base:Nat) (e:TypeId) (i:TypeInfo) (z:Value) (size bytes:Nat) (ht:P.underlying t=some (.slice e)) (hi:P.info? e=some i) (hz:i.zero=some z)
  (hsize:i.size=size) (hby:i.bytes=bytes) (hzs:z.cells.size=size) (hsz:0<size)
  (v:Value) (n:Nat) (xs:List Value) (hs:a.eval s=v) (hown:w.ownsRow base e size v n xs)
  (A:Option Addr) (m c:Nat) (news:List Value) (hx:a.eval x = .slice A m c) (hl:news.length=m * size) (hr:Rd w A news) (h1:∀u∈news,u.oneCell'=true)
  (h63:n+m≤maxLen) (hbytes:(n+m) * bytes≤140737488355328) (hbase:base≤w.heap.size)
  (h:∀v' w',w'.ownsRow base e size v' (n+m) (xs++news)→w.grownBy w' v.ownBlock→(v'.ownBlock=v.ownBlock∨v'.ownBlock=some w.heap.size)→wpList P ops Q rest (a.put o.dst v') w'):wpList P ops Q (o::rest) a w:=by
 refine uR hgd fun _ hK => ?_
 obtain ⟨v',w',hrun,h2,h3,h4⟩:=mZ (P:=P) w base t o.type e i z size bytes ht hi hz hsize hby hzs hsz v n xs hown A m c news hl hr h1 h63 hbytes hbase
 unfold Oper.wp execOp
 simp only [ho,resolve,invoke,builtin,vV,vW,kN,vK,qD,kH,hs,hx,hrun]
 exact hK _ _ (h v' w' h2 h3 h4)
end
theorem Rd.drop {w:World} {A:Option Addr} {xs:List Value} (h:Rd w A xs) (k:Nat):Rd w (A.map fun a=>a.add k) (xs.drop k):=by
 intro h0
 rw [qQ] at h0
 obtain ⟨b,off,rfl,hb,hc⟩:=h (by omega)
 refine ⟨b,off+k,?_,hb,fun j u hu => ?_⟩
 ·simp only [kI,Addr.add]
  split
  ·rename_i hk;subst hk;rfl
  ·rfl
 ·rw [yJ] at hu
  have:=hc (k+j) u hu
  rwa [show off+k+j=off+(k+j) by omega]
open Go.RowKit
theorem gB:(Try.prog.info? 3).map (fun i=>(i.zero,i.size,i.bytes))=some (some (.int .i64 0),1,8):=by kernel_rfl
theorem bZ:(Try.prog.info? 33).map (fun i=>(i.zero,i.size,i.bytes))=some (some (.slice none 0 0),1,24):=by kernel_rfl
theorem aU:(Try.prog.info? 50).map (fun i=>(i.zero,i.size,i.bytes))=some (some (.agg #[.int .i64 0, .int .i64 0, .int .i64 0]),3,24):=by kernel_rfl
def Own (w':World) (base:Nat) (v:Value) (xs:List Int):Prop :=
 w'.ownsRow base 3 1 v xs.length (xs.map (Value.int .i64))∧∀x∈xs,I64 x
theorem aW {w:World} {base g n cap k:Nat} {e:TypeId} {xs:List Value} (h:w.ownsRow base e k (.slice (some ⟨g,0,none⟩) n cap) n xs):base≤g∧g<w.heap.size∧n≤cap∧cap≤maxLen∧∀j u,xs[j]? = some u→w.cell? ⟨g,0+j,none⟩=some u:=by
 rcases h.2 with ⟨h0,_⟩|⟨g',cap',cur,hv,hg,hh,hn,hm,hs,ht⟩
 ·cases h0
 ·cases hv
  refine ⟨hg,(yP.1 hh).1,hn,hm,fun j u hu => ?_⟩
  rw [qY,cell_of_row w g j cur e (0,0) hh]
  rw [←ht,qX] at hu
  split at hu
  ·simpa using hu
  ·cases hu
theorem bN {w:World} {base n k:Nat} {e:TypeId} {v:Value} {xs:List Value} (h:w.ownsRow base e k v n xs):(v = .slice none 0 0∧n=0∧xs=[])∨∃g cap,v = .slice (some ⟨g,0,none⟩) n cap:=by
 rcases h.2 with ⟨rfl,rfl⟩|⟨g,cap,_,rfl,_⟩
 ·exact .inl ⟨rfl,rfl,qS (by simpa using h.1)⟩
 ·exact .inr ⟨g,cap,rfl⟩
theorem wD {w:World} {base n k:Nat} {e:TypeId} {v:Value} {xs:List Value} (h:w.ownsRow base e k v n xs):∃A c,v = .slice A n c∧n≤c∧c≤maxLen∧Rd w A xs:=by
 rcases bN h with ⟨rfl,rfl,rfl⟩|⟨g,cap,rfl⟩
 ·exact ⟨none,0,rfl,Nat.le_refl _,by simp [maxLen],Rd.nil _ _⟩
 ·obtain ⟨h1,h2,h3,h4,h5⟩:=aW h
  exact ⟨_,cap,rfl,h3,h4,fun _=>⟨g,0,rfl,h2,h5⟩⟩
theorem Own.ints {w:World} {base:Nat} {v:Value} {xs:List Int} (h:Own w base v xs):Ints w v xs:=by
 obtain ⟨A,c,h1,h2,h3,h4⟩:=wD h.1
 exact ⟨A,c,h1,h2,h3,h.2,h4⟩
theorem cK {w:World} {base:Nat} {v:Value} {ds:List Diff} (h:w.ownsRow base 50 3 v ds.length (ds.flatMap Diff.cells)) (hk:∀d∈ds,d.ok):Diffs w v ds:=by
 obtain ⟨A,c,h1,h2,h3,h4⟩:=wD h
 exact ⟨A,c,h1,h2,h3,hk,h4⟩
def IntsO (w:World) (P:Nat→Prop) (v:Value) (xs:List Int):Prop :=
 ∃A c,v = .slice A xs.length c∧xs.length≤c∧c≤maxLen∧(∀x∈xs,I64 x) ∧
  (0<xs.length→∃b off,A=some ⟨b,off,none⟩∧b<w.heap.size∧P b∧∀j u,(xs.map (Value.int .i64))[j]? = some u→w.cell? ⟨b,off+j,none⟩=some u)
section
variable {w w':World} {P Q:Nat→Prop} {v:Value} {xs:List Int} {base:Nat}
theorem IntsO.ints (h:IntsO w P v xs):Ints w v xs:=by
 obtain ⟨A,c,h1,h2,h3,h4,h5⟩:=h
 exact ⟨A,c,h1,h2,h3,h4,fun h0=>by obtain ⟨b,off,a1,a2,_,a4⟩:=h5 (by simpa using h0);exact ⟨b,off,a1,a2,a4⟩⟩
theorem IntsO.mono (h:IntsO w P v xs) (hP:∀b,b<w.heap.size→P b→Q b):IntsO w Q v xs:=by
 obtain ⟨A,c,h1,h2,h3,h4,h5⟩:=h
 exact ⟨A,c,h1,h2,h3,h4,fun h0=>by obtain ⟨b,off,a1,a2,a3,a4⟩:=h5 h0;exact ⟨b,off,a1,a2,hP b a2 a3,a4⟩⟩
theorem IntsO.grown {row:Option Nat} (h:IntsO w P v xs) (hg:w.grownBy w' row) (hne:∀b,P b→some b≠row):IntsO w' P v xs:=by
 obtain ⟨A,c,h1,h2,h3,h4,h5⟩:=h
 exact ⟨A,c,h1,h2,h3,h4,fun h0=>by obtain ⟨b,off,a1,a2,a3,a4⟩:=h5 h0;exact ⟨b,off,a1,zX a2 hg.size,a3,fun j u hu=>hg.cell (a4 j u hu) (hne b a3)⟩⟩
theorem IntsO.keep (h:IntsO w P v xs) (hb:Below w.heap.size w w'):IntsO w' P v xs:=by
 obtain ⟨A,c,h1,h2,h3,h4,h5⟩:=h
 exact ⟨A,c,h1,h2,h3,h4,fun h0=>by obtain ⟨b,off,a1,a2,a3,a4⟩:=h5 h0;exact ⟨b,off,a1,zX a2 hb.size,a3,fun j u hu=>(hb.cell (p:=⟨b,off+j,none⟩) a2).trans (a4 j u hu)⟩⟩
theorem Own.intsO (h:Own w base v xs) (hP:∀b,base≤b→b<w.heap.size→v.ownBlock=some b→P b):IntsO w P v xs:=by
 rcases bN h.1 with ⟨rfl,h0,_⟩|⟨g,cap,rfl⟩
 ·obtain rfl:xs=[]:=qS h0
  exact ⟨none,0,rfl,by simp,by simp [maxLen],by simp,by simp⟩
 ·obtain ⟨h1,h2,h3,h4,h5⟩:=aW h.1
  exact ⟨_,cap,rfl,h3,h4,h.2,fun _=>⟨g,0,rfl,h2,hP g h1 h2 rfl,h5⟩⟩
end
def OwnMat (w:World) (base:Nat) (P:Nat→Prop) (v:Value) (us:List Value) (xss:List (List Int)):Prop :=
 w.ownsRow base 33 1 v us.length us∧us.length=xss.length∧∀(k:Nat) (u:Value) (xs:List Int),us[k]? = some u→xss[k]? = some xs→IntsO w (fun b=>P b∧some b≠v.ownBlock) u xs
section
variable {w w':World} {P Q:Nat→Prop} {v u:Value} {us:List Value} {xss:List (List Int)} {xs:List Int} {base:Nat}
theorem OwnMat.nil (w:World) (base:Nat) (P:Nat→Prop):OwnMat w base P (.slice none 0 0) [] []:=⟨qG _ _ _ _,rfl,fun k u xs h=>by simp at h⟩
theorem OwnMat.mat (h:OwnMat w base P v us xss):Mat w v xss:=by
 obtain ⟨h1,h2,h3⟩:=h
 obtain ⟨A,c,q1,q2,q3,q4⟩:=wD h1
 exact ⟨A,c,us,by rw [q1,h2],by omega,q3,h2,q4,fun k u xs a b=>(h3 k u xs a b).ints⟩
theorem OwnMat.grown {row:Option Nat} (h:OwnMat w base P v us xss) (hg:w.grownBy w' row) (hv:v.ownBlock=none∨v.ownBlock≠row) (hne:∀b,P b→some b≠row):OwnMat w' base P v us xss :=
 ⟨h.1.kept hg hv,h.2.1,fun k u xs a b=>(h.2.2 k u xs a b).grown hg fun b hb=>hne b hb.1⟩
theorem OwnMat.mono (h:OwnMat w base P v us xss) (hP:∀b,b<w.heap.size→P b→Q b):OwnMat w base Q v us xss :=
 ⟨h.1,h.2.1,fun k u xs a b=>(h.2.2 k u xs a b).mono fun b hb hp=>⟨hP b hb hp.1,hp.2⟩⟩
theorem dC {w w':World} {base n k:Nat} {e:TypeId} {v:Value} {xs:List Value} (h:w.ownsRow base e k v n xs) (hb:Below w.heap.size w w'):w'.ownsRow base e k v n xs:=by
 refine ⟨h.1,?_⟩
 rcases h.2 with hn|⟨g,cap,cur,rfl,hg,hgg,rest⟩
 ·exact .inl hn
 ·exact .inr ⟨g,cap,cur,rfl,hg,(hb.block g (yP.1 hgg).1).trans hgg,rest⟩
theorem OwnMat.keep (h:OwnMat w base P v us xss) (hb:Below w.heap.size w w'):OwnMat w' base P v us xss :=
 ⟨dC h.1 hb,h.2.1,fun k u xs a b=>(h.2.2 k u xs a b).keep hb⟩
theorem pB (w:World) (o:Obj):w.grownBy (w.alloc o) none:=World.grownBy_alloc w o none
theorem OwnMat.push {v':Value} {o:Obj} (h:OwnMat w base P v us xss) (hu:IntsO w (fun b=>P b∧some b≠v.ownBlock) u xs)
  (ho:w'.ownsRow base 33 1 v' (us.length+1) (us++[u])) (hg:(w.alloc o).grownBy w' v.ownBlock) (hat:v'.ownBlock=v.ownBlock∨v'.ownBlock=some (w.alloc o).heap.size):OwnMat w' base P v' (us++[u]) (xss++[xs]):=by
 have key:∀{u xs},IntsO w (fun b=>P b∧some b≠v.ownBlock) u xs→IntsO w' (fun b=>P b∧some b≠v'.ownBlock) u xs:=by
  intro u xs h
  refine IntsO.mono (P:=fun b=>(P b∧some b≠v.ownBlock)∧b<w.heap.size) ?_ fun b _ hb=>⟨hb.1.1,?_⟩
  ·have h1:IntsO w (fun b=>(P b∧some b≠v.ownBlock)∧b<w.heap.size) u xs:=h.mono fun b h1 h2=>⟨h2,h1⟩
   exact (h1.grown (pB w o) (fun b _=>by simp)).grown hg fun b hb=>hb.1.2
  ·rcases hat with e|e<;>rw [e]
   ·exact hb.1.2
   ·simp;have:=hb.2;omega
 refine ⟨by simpa using ho,by simp [h.2.1],fun k u' xs' a b => ?_⟩
 by_cases hk:k<us.length
 ·rw [zQ hk] at a
  rw [zQ (by rw [←h.2.1];exact hk)] at b
  exact key (h.2.2 k u' xs' a b)
 ·rw [zK (by omega)] at a
  rw [zK (by rw [←h.2.1];omega),←h.2.1] at b
  have:k-us.length=0:=by
   have:=(zG.1 a).1
   simp at this;omega
  rw [this] at a b
  simp at a b
  subst a b
  exact key hu
end
theorem wR (w:World) (t:TypeId) (cs:List Value) {B:Nat} (hB:w.heap.size=B):∀j x,cs[j]? = some x→(w.alloc (.cells cs.toArray t)).cell? ((⟨B,0,none⟩:Addr).add j)=some x:=by
 intro j x hx
 subst hB
 have h:=(Blk.new w t cs.toArray).cell j
 rw [zA,hx] at h
 unfold Addr.add
 split
 ·rename_i h0;subst h0;exact h
 ·rw [qY];exact h
theorem wY (w:World) (u:Value) (t:TypeId):∀j x,[u][j]? = some x→(w.alloc (.cells #[u] t)).cell? ((⟨w.heap.size,0,none⟩:Addr).add j)=some x:=wR w t [u] rfl
theorem Blk.grown {w w':World} {g:Nat} {t:TypeId} {cs:Array Value} {row:Option Nat} (h:Blk w g t cs) (hg:w.grownBy w' row) (hne:some g≠row):Blk w' g t cs:=(hg.block g h.lt hne).trans h
theorem jZ (w:World) (g i:Nat) (u:Value):w.grownBy (w.setCell ⟨g,i,none⟩ u) (some g) :=
 ⟨rfl,rfl,rfl,by simp,fun k _ hne=>Below.heap_setCell w ⟨g,i,none⟩ u k (by simpa using hne)⟩
theorem dF {a b c:World} {row:Option Nat} (h1:a.grownBy b row) (h2:b.grownBy c row):a.grownBy c row :=
 ⟨h2.os.trans h1.os,h2.tape.trans h1.tape,h2.output.trans h1.output,qB h1.size h2.size,fun k hk hne=>(h2.block k (zX hk h1.size) hne).trans (h1.block k hk hne)⟩
theorem cX {w:World} {base n k g:Nat} {e:TypeId} {v:Value} {xs:List Value} (h:w.ownsRow base e k v n xs) (hg:g<base):v.ownBlock=none∨v.ownBlock≠some g:=by
 cases e:v.ownBlock with
 | none=>exact .inl rfl
 | some g'=>right;have:=h.lt g' e;simp;omega
def Apart (u v:Value):Prop:=∀g,u.ownBlock=some g→v.ownBlock≠some g
theorem Apart.nil_left (v:Value):Apart (.slice none 0 0) v:=fun g h=>by cases h
theorem Apart.symm {u v:Value} (h:Apart u v):Apart v u:=fun g e1 e2=>h g e2 e1
theorem Apart.ne {u v:Value} (h:Apart u v):u.ownBlock=none∨u.ownBlock≠v.ownBlock:=by
 cases e:u.ownBlock with
 | none=>exact .inl rfl
 | some g=>right;exact fun e'=>h g e e'.symm
theorem Apart.append {u v v':Value} {n:Nat} (h:Apart u v) (hu:∀g,u.ownBlock=some g→g<n) (hat:v'.ownBlock=v.ownBlock∨v'.ownBlock=some n):Apart u v':=by
 intro g e1 e2
 rcases hat with h1|h1
 ·exact h g e1 (h1.symm.trans e2)
 ·rw [h1] at e2;injection e2 with e2;have:=hu g e1;omega
end Go.Proofs.Yticieifacalocaa
