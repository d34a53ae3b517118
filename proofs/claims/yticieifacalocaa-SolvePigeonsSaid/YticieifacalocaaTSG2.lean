/- Words Num Model Bound Form Lit Bell -/
import Derived.Test.YticieifacalocaaRows
import Derived.WalkKit
import Derived.Handy
import Derived.Outline
import Derived.Lib.Hide
import Derived.BigQuiet
import Derived.Test.YticieifacalocaaTSG1
namespace Go.Proofs.Yticieifacalocaa
open Go.RowKit
def I64 (x:Int):Prop := -9223372036854775808≤x∧x≤9223372036854775807
def Rd (w:World) (A:Option Addr) (xs:List Value):Prop :=
 0<xs.length→∃b off,A=some ⟨b,off,none⟩∧b<w.heap.size∧∀j u,xs[j]? = some u→w.cell? ⟨b,off+j,none⟩=some u
theorem Rd.keep {w w':World} {A:Option Addr} {xs:List Value} (h:Rd w A xs) (hb:Below w.heap.size w w'):Rd w' A xs:=by
 intro h0
 obtain ⟨b,off,hA,hlt,hc⟩:=h h0
 exact ⟨b,off,hA,zX hlt hb.size,fun j u hu=>(hb.cell (p:=⟨b,off+j,none⟩) hlt).trans (hc j u hu)⟩
theorem Rd.nil (w:World) (A:Option Addr):Rd w A []:=fun h=>absurd h (by simp)
def Ints (w:World) (v:Value) (xs:List Int):Prop :=
 ∃A c,v = .slice A xs.length c∧xs.length≤c∧c≤maxLen∧(∀x∈xs,I64 x)∧Rd w A (xs.map (Value.int .i64))
theorem Ints.keep {w w':World} {v:Value} {xs:List Int} (h:Ints w v xs) (hb:Below w.heap.size w w'):Ints w' v xs:=by
 obtain ⟨A,c,hv,hl,hm,hx,hr⟩:=h
 exact ⟨A,c,hv,hl,hm,hx,hr.keep hb⟩
theorem wN {α:Type} {l:List α} {k:Nat} {x:α} (h:l[k]? = some x):l.take (k+1)=l.take k++[x]:=by
 rw [xI,h];rfl
theorem Rd.at_ {w:World} {A:Option Addr} {xs:List Value} (h:Rd w A xs) {k:Nat} {u:Value} (hk:xs[k]? = some u) :
  ∃b off,A=some ⟨b,off,none⟩∧b<w.heap.size∧w.cell? ⟨b,off+k,none⟩=some u:=by
 have hl:k<xs.length:=(zG.1 hk).1
 obtain ⟨b,off,hA,hlt,hc⟩:=h (by omega)
 exact ⟨b,off,hA,hlt,hc k u hk⟩
theorem Rd.int {w:World} {A:Option Addr} {xs:List Int} (h:Rd w A (xs.map (Value.int .i64))) {k:Nat} {x:Int} (hk:xs[k]? = some x) :
  ∃b off,A=some ⟨b,off,none⟩∧b<w.heap.size∧w.cell? ⟨b,off+k,none⟩=some (.int .i64 x) :=
 h.at_ (by rw [List.getElem?_map,hk];rfl)
def Blk (w:World) (g:Nat) (t:TypeId) (cs:Array Value):Prop:=w.heap[g]? = some (.cells cs t (0,0))
section
variable {w w':World} {g:Nat} {t:TypeId} {cs:Array Value}
theorem Blk.lt (h:Blk w g t cs):g<w.heap.size:=by
 rcases xS g w.heap.size with hlt|hge
 ·exact hlt
 ·unfold Blk at h;rw [Array.getElem?_eq_none hge] at h;cases h
theorem Blk.cell (h:Blk w g t cs) (i:Nat):w.cell? ⟨g,i,none⟩=cs[i]? := cell_of_row w g i cs t (0,0) h
theorem Blk.frozen (h:Blk w g t cs) (i:Nat):w.frozen? ⟨g,i,none⟩=false:=by
 unfold Blk at h
 simp [World.frozen?,h]
theorem Blk.new (w:World) (t:TypeId) (cs:Array Value):Blk (w.alloc (.cells cs t)) w.heap.size t cs:=heap_alloc_new w _
theorem Blk.alloc (h:Blk w g t cs) (o:Obj):Blk (w.alloc o) g t cs:=(Below.heap_alloc w o g h.lt).trans h
theorem Blk.below {B:Nat} (h:Blk w g t cs) (hb:Below B w w') (hg:g<B):Blk w' g t cs:=(hb.block g hg).trans h
theorem Blk.keep (h:Blk w g t cs) (hb:Below w.heap.size w w'):Blk w' g t cs:=h.below hb h.lt
theorem Blk.far (h:Blk w g t cs) {p:Addr} (hp:g≠p.block) (u:Value):Blk (w.setCell p u) g t cs:=(Below.heap_setCell w p u g hp).trans h
theorem Blk.set_ (h:Blk w g t cs) (i:Nat) (u:Value):Blk (w.setCell ⟨g,i,none⟩ u) g t (cs.setIfInBounds i u):=by
 unfold Blk at h ⊢
 simp [World.setCell,Array.getElem?_modify,h]
theorem Blk.drew (h:Blk w g t cs):Blk w.drew g t cs:=h
end
theorem iE {B:Nat} {a w:World} (h:Below B a w) (n:Nat):Below B a (w.drewN n):=⟨h.os,h.tape,h.output,h.size,h.block⟩
theorem cM (x:Int) (w:World) (hx:0<x) (hy:x≤9223372036854775807) :
  Calls Try.prog 79 #[.int .i64 x] w fun e w'=>e = .returned (.int .i64 (x-1))∧w=w':=by
 go_enter Try.func79,Try.ntmps79
 go_wp2
 go_ret
 exact ⟨rfl,rfl⟩
theorem cU (x:Int) (w:World) (hx:x<0) (hy : -9223372036854775808≤x) :
  Calls Try.prog 79 #[.int .i64 x] w fun e w'=>e = .returned (.int .i64 (-(x+1)))∧w=w':=by
 go_enter Try.func79,Try.ntmps79
 go_wp2
 go_ret
 exact ⟨rfl,rfl⟩
theorem eF (w:World) :
  Calls Try.prog 79 #[.int .i64 0] w fun e w'=>e = .returned (.int .i64 (-1))∧w=w':=by
 go_enter Try.func79,Try.ntmps79
 go_wp2
 go_ret
 exact ⟨rfl,rfl⟩
def varOf (x:Int):Int:=if 0<x then x-1 else if x<0 then -(x+1) else -1
theorem oX (x:Int) (w:World) (hx:I64 x) :
  Calls Try.prog 79 #[.int .i64 x] w fun e w'=>e = .returned (.int .i64 (varOf x))∧w=w':=by
 obtain ⟨h1,h2⟩:=hx
 unfold varOf
 by_cases a:0<x
 ·rw [if_pos a];exact cM x w a h2
 ·rw [if_neg a]
  by_cases b:x<0
  ·rw [if_pos b];exact cU x w b h1
  ·rw [if_neg b]
   obtain rfl:x=0:=by omega
   exact eF w
theorem sZ (x:Int) (w:World) (hx:0≤x) :
  Calls Try.prog 48 #[.int .i64 x] w fun e w'=>e = .returned (.int .i64 x)∧w=w':=by
 go_enter Try.func48,Try.ntmps48
 go_wp2
 go_ret
 exact ⟨rfl,rfl⟩
theorem abs_neg (x:Int) (w:World) (hx:x<0) (hy : -9223372036854775808<x) :
  Calls Try.prog 48 #[.int .i64 x] w fun e w'=>e = .returned (.int .i64 (-x))∧w=w':=by
 go_enter Try.func48,Try.ntmps48
 go_wp2
 go_ret
 exact ⟨rfl,rfl⟩
def Bools (w:World) (v:Value) (bs:List Bool):Prop :=
 ∃A c,v = .slice A bs.length c∧bs.length≤c∧c≤maxLen∧Rd w A (bs.map Value.bool)
theorem Bools.keep {w w':World} {v:Value} {xs:List Bool} (h:Bools w v xs) (hb:Below w.heap.size w w'):Bools w' v xs:=by
 obtain ⟨A,c,hv,hl,hm,hr⟩:=h
 exact ⟨A,c,hv,hl,hm,hr.keep hb⟩
theorem Rd.bool {w:World} {A:Option Addr} {xs:List Bool} (h:Rd w A (xs.map Value.bool)) {k:Nat} {x:Bool} (hk:xs[k]? = some x) :
  ∃b off,A=some ⟨b,off,none⟩∧b<w.heap.size∧w.cell? ⟨b,off+k,none⟩=some (.bool x) :=
 h.at_ (by rw [List.getElem?_map,hk];rfl)
def holds (bs:List Bool) (lit:Int):Bool :=
 if 0<lit then bs.getD (lit-1).toNat false else if lit<0 then (bs[(-lit-1).toNat]?).any (!·) else false
theorem dM (bs:List Bool) (n:Nat):holds bs ((n:Int)+1)=bs.getD n false:=by
 unfold holds
 rw [if_pos (by omega),show ((n:Int)+1-1).toNat=n from by omega]
theorem cB (bs:List Bool) (n:Nat):holds bs (-((n:Int)+1))=(bs[n]?).any (!·):=by
 unfold holds
 rw [if_neg (by omega),if_pos (by omega),show (-(-((n:Int)+1))-1).toNat=n from by omega]
theorem cE (lit:Int):lit=0∨(∃n:Nat,lit=(n:Int)+1)∨(∃n:Nat,lit = -((n:Int)+1)):=by
 rcases Int.lt_trichotomy lit 0 with h|h|h
 ·exact .inr (.inr ⟨(-lit-1).toNat,by omega⟩)
 ·exact .inl h
 ·exact .inr (.inl ⟨(lit-1).toNat,by omega⟩)
theorem nC {α:Type} {l:List α} {p:α→Bool} {k:Nat} {x:α} (h:(l.take k).any p=false) (hk:l[k]? = some x) (hx:p x=false):(l.take (k+1)).any p=false:=by
 rw [wN hk,List.any_append,h];simp [hx]
theorem any_at {α:Type} {l:List α} {p:α→Bool} {k:Nat} {x:α} (hk:l[k]? = some x) (hx:p x=true):l.any p=true:=by
 rw [xY];exact ⟨x,List.mem_of_getElem? hk,hx⟩
theorem oE {α:Type} {l:List α} {p:α→Bool} {k:Nat} (h:(l.take k).any p=false) (hk:l.length≤k):l.any p=false:=by
 rwa [zU hk] at h
structure Diff where
 x:Int
 y:Int
 c:Int
def Diff.cells (d:Diff):List Value:=[.int .i64 d.x, .int .i64 d.y, .int .i64 d.c]
def Diff.val (d:Diff):Value := .agg #[.int .i64 d.x, .int .i64 d.y, .int .i64 d.c]
def Diff.ok (d:Diff):Prop:=I64 d.x∧I64 d.y∧I64 d.c
def Diffs (w:World) (v:Value) (ds:List Diff):Prop :=
 ∃A c,v = .slice A ds.length c∧ds.length≤c∧c≤maxLen∧(∀d∈ds,d.ok)∧Rd w A (ds.flatMap Diff.cells)
theorem Diffs.keep {w w':World} {v:Value} {xs:List Diff} (h:Diffs w v xs) (hb:Below w.heap.size w w'):Diffs w' v xs:=by
 obtain ⟨A,c,hv,hl,hm,hx,hr⟩:=h
 exact ⟨A,c,hv,hl,hm,hx,hr.keep hb⟩
theorem flat_at {ds:List Diff} {k:Nat} {d:Diff} (h:ds[k]? = some d) :
  (ds.flatMap Diff.cells)[k * 3]? = some (.int .i64 d.x)∧(ds.flatMap Diff.cells)[k * 3+1]? = some (.int .i64 d.y)∧(ds.flatMap Diff.cells)[k * 3+2]? = some (.int .i64 d.c):=by
 induction ds generalizing k with
 | nil=>simp at h
 | cons e r ih =>
  cases k with
  | zero=>simp at h;subst h;simp [Diff.cells]
  | succ k =>
   obtain ⟨h1,h2,h3⟩:=ih (k:=k) (by simpa using h)
   simp only [kK]
   have hl:e.cells.length=3:=rfl
   refine ⟨?_,?_,?_⟩
   ·rw [zK (by omega),hl,show (k+1) * 3-3=k * 3 from by omega];exact h1
   ·rw [zK (by omega),hl,show (k+1) * 3+1-3=k * 3+1 from by omega];exact h2
   ·rw [zK (by omega),hl,show (k+1) * 3+2-3=k * 3+2 from by omega];exact h3
theorem Rd.diff {w:World} {A:Option Addr} {ds:List Diff} (h:Rd w A (ds.flatMap Diff.cells)) {k:Nat} {d:Diff} (hk:ds[k]? = some d) :
  ∃b off,A=some ⟨b,off,none⟩∧b<w.heap.size∧w.cell? ⟨b,off+k * 3,none⟩=some (.int .i64 d.x)∧w.cell? ⟨b,off+k * 3+1,none⟩=some (.int .i64 d.y)∧w.cell? ⟨b,off+k * 3+2,none⟩=some (.int .i64 d.c):=by
 obtain ⟨h1,h2,h3⟩:=flat_at hk
 obtain ⟨b,off,hA,hlt,hc⟩:=h (by have:=(zG.1 h1).1;omega)
 exact ⟨b,off,hA,hlt,hc _ _ h1,hc _ _ h2,hc _ _ h3⟩
def Diff.opp (d:Diff):Diff:=⟨d.y,d.x, -d.c-1⟩
def bound (ds:List Diff) (lit:Int):Option Diff :=
 if 0<lit then ds[(lit-1).toNat]? else if lit<0 then (ds[(-lit-1).toNat]?).map Diff.opp else none
def boundVal:Option Diff→Value
 | some d => .tuple #[d.val, .bool true]
 | none => .tuple #[Diff.val ⟨0,0,0⟩, .bool false]
theorem bound_zero (ds:List Diff):bound ds 0=none:=rfl
theorem aV (ds:List Diff) (n:Nat):bound ds ((n:Int)+1)=ds[n]? := by
 unfold bound
 rw [if_pos (by omega),show ((n:Int)+1-1).toNat=n from by omega]
theorem aX (ds:List Diff) (n:Nat):bound ds (-((n:Int)+1))=(ds[n]?).map Diff.opp:=by
 unfold bound
 rw [if_neg (by omega),if_pos (by omega),show (-(-((n:Int)+1))-1).toNat=n from by omega]
section
variable (i j:Value) (av cv:Value) (ds:List Diff) (w:World)
theorem pT (hb:Diffs w av ds) :
  Calls Try.prog 67 #[.agg #[i,j,av,cv], .int .i64 0] w fun e w'=>e = .returned (boundVal none)∧Below w.heap.size w w':=by
 obtain ⟨A,c,rfl,h1,h2,h3,hr⟩:=hb
 unfold maxLen at h2
 clear h3 hr
 go_enter Try.func67,Try.ntmps67
 go_wp2_with (go_at_call 79;refine (eF _).mono ?_;rintro e w' ⟨rfl,rfl⟩)
 go_returns
 exact ⟨rfl,by go_grown⟩
theorem fbound_pos (n:Nat) (d:Diff) (hb:Diffs w av ds) (hd:ds[n]? = some d) (hl:n+1≤9223372036854775807) :
  Calls Try.prog 67 #[.agg #[i,j,av,cv], .int .i64 ((n:Int)+1)] w fun e w'=>e = .returned (boundVal (some d))∧Below w.heap.size w w':=by
 obtain ⟨A,c,rfl,h1,h2,h3,hr⟩:=hb
 unfold maxLen at h2
 have hlt:n<ds.length:=(zG.1 hd).1
 obtain ⟨b1,o1,rfl,hb1,hc1,hc2,hc3⟩:=hr.diff hd
 obtain ⟨x,y,z⟩:=d
 clear hd h3 hr
 go_enter Try.func67,Try.ntmps67
 go_wp2_with (go_at_call 79;refine (cM _ _ (by omega) (by omega)).mono ?_;rintro e w' ⟨rfl,rfl⟩)
 go_returns
 exact ⟨rfl,by go_grown⟩
theorem rC (n:Nat) (hb:Diffs w av ds) (hge:ds.length≤n) (hl:n+1≤9223372036854775807) :
  Calls Try.prog 67 #[.agg #[i,j,av,cv], .int .i64 ((n:Int)+1)] w fun e w'=>e = .returned (boundVal none)∧Below w.heap.size w w':=by
 obtain ⟨A,c,rfl,h1,h2,h3,hr⟩:=hb
 unfold maxLen at h2
 clear h3 hr
 go_enter Try.func67,Try.ntmps67
 go_wp2_with (go_at_call 79;refine (cM _ _ (by omega) (by omega)).mono ?_;rintro e w' ⟨rfl,rfl⟩)
 go_returns
 exact ⟨rfl,by go_grown⟩
theorem fbound_neg (n:Nat) (d:Diff) (hb:Diffs w av ds) (hd:ds[n]? = some d) (hl:n+1≤9223372036854775808) (hC : -9223372036854775807≤d.c) :
  Calls Try.prog 67 #[.agg #[i,j,av,cv], .int .i64 (-((n:Int)+1))] w fun e w'=>e = .returned (boundVal (some d.opp))∧Below w.heap.size w w':=by
 obtain ⟨A,c,rfl,h1,h2,h3,hr⟩:=hb
 unfold maxLen at h2
 have hlt:n<ds.length:=(zG.1 hd).1
 obtain ⟨b1,o1,rfl,hb1,hc1,hc2,hc3⟩:=hr.diff hd
 obtain ⟨x,y,z⟩:=d
 obtain ⟨k1,k2⟩:=(h3 _ (List.mem_of_getElem? hd)).2.2
 simp only at hC k1 k2
 clear hd h3 hr
 go_enter Try.func67,Try.ntmps67
 go_wp2_with (go_at_call 79;refine (cU _ _ (by omega) (by omega)).mono ?_;rintro e w' ⟨rfl,rfl⟩;rw [show -(-((n:Int)+1)+1)=(n:Int) from by omega])
 go_returns
 exact ⟨rfl,by go_grown⟩
theorem oP (n:Nat) (hb:Diffs w av ds) (hge:ds.length≤n) (hl:n+1≤9223372036854775808) :
  Calls Try.prog 67 #[.agg #[i,j,av,cv], .int .i64 (-((n:Int)+1))] w fun e w'=>e = .returned (boundVal none)∧Below w.heap.size w w':=by
 obtain ⟨A,c,rfl,h1,h2,h3,hr⟩:=hb
 unfold maxLen at h2
 clear h3 hr
 go_enter Try.func67,Try.ntmps67
 go_wp2_with (go_at_call 79;refine (cU _ _ (by omega) (by omega)).mono ?_;rintro e w' ⟨rfl,rfl⟩;rw [show -(-((n:Int)+1)+1)=(n:Int) from by omega])
 go_returns
 exact ⟨rfl,by go_grown⟩
theorem cQ (lit:Int) (hb:Diffs w av ds) (hC:∀d∈ds, -9223372036854775807≤d.c) (hl:I64 lit) :
  Calls Try.prog 67 #[.agg #[i,j,av,cv], .int .i64 lit] w fun e w'=>e = .returned (boundVal (bound ds lit))∧Below w.heap.size w w':=by
 obtain ⟨hl1,hl2⟩:=hl
 rcases cE lit with rfl|⟨n,rfl⟩|⟨n,rfl⟩
 ·exact pT i j av cv ds w hb
 ·rw [aV]
  rcases xS n ds.length with h|h
  ·rw [List.getElem?_eq_getElem h];exact fbound_pos i j av cv ds w n _ hb (List.getElem?_eq_getElem h) (by omega)
  ·rw [List.getElem?_eq_none h];exact rC i j av cv ds w n hb h (by omega)
 ·rw [aX]
  rcases xS n ds.length with h|h
  ·rw [List.getElem?_eq_getElem h];exact fbound_neg i j av cv ds w n _ hb (List.getElem?_eq_getElem h) (by omega) (hC _ (yY h))
  ·rw [List.getElem?_eq_none h];exact oP i j av cv ds w n hb h (by omega)
end
def Mat (w:World) (v:Value) (xss:List (List Int)):Prop :=
 ∃A c vs,v = .slice A xss.length c∧xss.length≤c∧c≤maxLen∧vs.length=xss.length∧Rd w A vs∧∀(k:Nat) (u:Value) (xs:List Int),vs[k]? = some u→xss[k]? = some xs→Ints w u xs
theorem Mat.keep {w w':World} {v:Value} {xss:List (List Int)} (h:Mat w v xss) (hb:Below w.heap.size w w'):Mat w' v xss:=by
 obtain ⟨A,c,vs,hv,hl,hm,hx,hr,hi⟩:=h
 exact ⟨A,c,vs,hv,hl,hm,hx,hr.keep hb,fun k u xs h1 h2=>(hi k u xs h1 h2).keep hb⟩
structure Form where
 ints:Int
 bools:Int
 atoms:List Diff
 clauses:List (List Int)
def IsForm (w:World) (v:Value) (f:Form):Prop :=
 ∃av cv,v = .agg #[.int .i64 f.ints, .int .i64 f.bools,av,cv]∧I64 f.ints∧I64 f.bools∧Diffs w av f.atoms∧Mat w cv f.clauses
theorem IsForm.keep {w w':World} {v:Value} {f:Form} (h:IsForm w v f) (hb:Below w.heap.size w w'):IsForm w' v f:=by
 obtain ⟨av,cv,hv,h1,h2,h3,h4⟩:=h
 exact ⟨av,cv,hv,h1,h2,h3.keep hb,h4.keep hb⟩
theorem Mat.at_ {w:World} {A:Option Addr} {vs:List Value} {xss:List (List Int)} (hr:Rd w A vs) (hl:vs.length=xss.length)
  (hi:∀(k:Nat) (u:Value) (xs:List Int),vs[k]? = some u→xss[k]? = some xs→Ints w u xs) {k:Nat} {xs:List Int} (hk:xss[k]? = some xs) :
  ∃b off A' c',A=some ⟨b,off,none⟩∧b<w.heap.size∧w.cell? ⟨b,off+k,none⟩=some (.slice A' xs.length c')∧Ints w (.slice A' xs.length c') xs:=by
 have hlt:k<vs.length:=by have:=(zG.1 hk).1;omega
 obtain ⟨u,hu⟩:∃u,vs[k]? = some u:=⟨_,List.getElem?_eq_getElem hlt⟩
 obtain ⟨b,off,hA,hb,hc⟩:=hr.at_ hu
 have h:=hi k u xs hu hk
 obtain ⟨A',c',rfl,h'⟩:=h
 exact ⟨b,off,A',c',hA,hb,hc,A',c',rfl,h'⟩
theorem sG {a b:Bool} (h:a=b):Ending.returned (.bool a) = .returned (.bool b):=by rw [h]
theorem cP {k:IntKind} {a b:Int} (h:a=b):Ending.returned (.int k a) = .returned (.int k b):=by rw [h]
theorem pA {p q:Prop} [Decidable p] [Decidable q] (h:p↔q):decide p=decide q:=by simp [h]
theorem bM {w w':World} {g:Nat} {xs:List Int} (hb:Blk w g 3 (xs.map (Value.int .i64)).toArray) (hk:Below w.heap.size w w') (hx:∀x∈xs,I64 x) (hl:xs.length≤maxLen) :
  Ints w' (.slice (some ⟨g,0,none⟩) xs.length xs.length) xs:=by
 have hb':=hb.keep hk
 refine ⟨_,_,rfl,Nat.le_refl _,hl,hx,fun _=>⟨g,0,rfl,hb'.lt,fun j u hu => ?_⟩⟩
 rw [hb'.cell,qY]
 simpa using hu
theorem diffs_lit {w:World} {g:Nat} {ds:List Diff} (hb:Blk w g 50 (ds.flatMap Diff.cells).toArray) (hx:∀d∈ds,d.ok) (hl:ds.length≤maxLen) :
  Diffs w (.slice (some ⟨g,0,none⟩) ds.length ds.length) ds:=by
 refine ⟨_,_,rfl,Nat.le_refl _,hl,hx,fun _=>⟨g,0,rfl,hb.lt,fun j u hu => ?_⟩⟩
 rw [hb.cell,qY]
 simpa using hu
theorem mat_lit {w:World} {g:Nat} {vs:List Value} {xss:List (List Int)} (hb:Blk w g 33 vs.toArray) (hl:vs.length=xss.length) (hm:xss.length≤maxLen)
  (hi:∀(k:Nat) (u:Value) (xs:List Int),vs[k]? = some u→xss[k]? = some xs→Ints w u xs) :
  Mat w (.slice (some ⟨g,0,none⟩) xss.length xss.length) xss:=by
 refine ⟨_,_,vs,rfl,Nat.le_refl _,hm,hl,fun _=>⟨g,0,rfl,hb.lt,fun j u hu => ?_⟩,hi⟩
 rw [hb.cell,qY]
 simpa using hu
def gi (xs:List Int) (v:Int):Int:=xs.getD v.toNat 0
theorem dV {xs:List Int} {v u a:Int} (h0:0≤v) (h1:v<xs.length) (hu:0≤u):gi (xs.set v.toNat a) u=if u=v then a else gi xs u:=by
 unfold gi
 rw [List.getD_eq_getElem?_getD,List.getD_eq_getElem?_getD,kL]
 by_cases e:u=v
 ·subst e;rw [if_pos rfl,if_pos (by omega),if_pos rfl];rfl
 ·rw [if_neg (by omega),if_neg e]
def iW (n:Nat) (M:Int) (l:List Diff):Prop:=∀(k:Nat) (e:Diff),l[k]? = some e→0≤e.x∧e.x<n∧0≤e.y∧e.y<n∧e.x≠e.y ∧ -M≤e.c∧e.c≤M
structure BF (n:Nat) (M:Int) (l:List Diff) (r i:Nat) (xs bs:List Int) (last:Int) (t:Int→Int) (s:Int→Nat) (N:Nat):Prop where
 lx:xs.length=n
 lb:bs.length=n
 par:∀v:Int,0≤v→v<n→(gi bs v = -1∧t v = -1∧s v=0)∨(∃(k:Nat) (e:Diff),gi bs v=k∧l[k]? = some e∧e.x=v∧gi xs e.y+e.c≤gi xs v∧(s v<s e.y→gi xs e.y+e.c<gi xs v)∧0≤t v∧t v-1≤t e.y∧0<s v)
 rel:∀(k:Nat) (e:Diff),l[k]? = some e→gi xs e.y+e.c<gi xs e.x→(r:Int)-1≤t e.y∧(k<i→(r:Int)≤t e.y)
 tr:∀v,t v≤r
 inj:∀u v,0<s u→s u=s v→u=v
 sN:∀v,s v≤N
 last:(last = -1∧∀v,t v≤(r:Int)-1)∨(0≤last∧last<n∧t last=r)
 bd:∀v:Int,0≤v→v<n → -(M * ((r * l.length+i:Nat):Int))≤gi xs v∧gi xs v≤0
def Bell (n:Nat) (M:Int) (l:List Diff) (r i:Nat) (xs bs:List Int) (last:Int):Prop:=∃t s N,BF n M l r i xs bs last t s N
theorem Bell.start (n:Nat) (M:Int) (l:List Diff):Bell n M l 0 0 (List.replicate n 0) (List.replicate n (-1)) (-1):=by
 refine ⟨fun _ => -1,fun _=>0,0,by simp,by simp,fun v h0 h1 => .inl ⟨?_,rfl,rfl⟩,fun k e _ h => ?_,by simp,by simp,by simp, .inl ⟨rfl,by simp⟩,fun v h0 h1 => ?_⟩
 ·unfold gi;rw [List.getD_eq_getElem?_getD,List.getElem?_replicate,if_pos (by omega)];rfl
 ·simp
 ·have:gi (List.replicate n 0) v=0:=by unfold gi;rw [List.getD_eq_getElem?_getD,List.getElem?_replicate,if_pos (by omega)];rfl
  rw [this];simp
theorem Bell.no {n:Nat} {M:Int} {l:List Diff} {r i:Nat} {xs bs:List Int} {last:Int} (h:Bell n M l r i xs bs last) (hM:0≤M) {e:Diff} (he:l[i]? = some e) (hle:gi xs e.x≤gi xs e.y+e.c) :
  Bell n M l r (i+1) xs bs last:=by
 obtain ⟨t,s,N,h⟩:=h
 refine ⟨t,s,N,h.lx,h.lb,h.par,fun k e' hk hlt=>⟨(h.rel k e' hk hlt).1,fun hki => ?_⟩,h.tr,h.inj,h.sN,h.last,fun v h0 h1=>⟨?_,(h.bd v h0 h1).2⟩⟩
 ·by_cases hk':k=i
  ·subst hk';rw [he] at hk;injection hk with hk;subst hk;omega
  ·exact (h.rel k e' hk hlt).2 (by omega)
 ·have:=(h.bd v h0 h1).1
  have h3:M * ((r * l.length+(i+1):Nat):Int)=M * ((r * l.length+i:Nat):Int)+M:=by
   rw [show ((r * l.length+(i+1):Nat):Int)=((r * l.length+i:Nat):Int)+1 by omega,kD,jU]
  omega
theorem Bell.yes {n:Nat} {M:Int} {l:List Diff} {r i:Nat} {xs bs:List Int} {last:Int} (h:Bell n M l r i xs bs last) (hl:iW n M l) {e:Diff} (he:l[i]? = some e) (hlt:gi xs e.y+e.c<gi xs e.x) :
  Bell n M l r (i+1) (xs.set e.x.toNat (gi xs e.y+e.c)) (bs.set e.x.toNat i) e.x:=by
 obtain ⟨t,s,N,h⟩:=h
 obtain ⟨x0,x1,y0,y1,hne,c0,c1⟩:=hl i e he
 have hgx:∀u,0≤u→gi (xs.set e.x.toNat (gi xs e.y+e.c)) u=if u=e.x then gi xs e.y+e.c else gi xs u:=fun u hu=>dV x0 (by rw [h.lx];exact x1) hu
 have hgb:∀u,0≤u→gi (bs.set e.x.toNat i) u=if u=e.x then (i:Int) else gi bs u:=fun u hu=>dV x0 (by rw [h.lb];exact x1) hu
 have hgle:∀u,0≤u→gi (xs.set e.x.toNat (gi xs e.y+e.c)) u≤gi xs u:=by
  intro u hu;rw [hgx u hu];split
  ·rename_i eq;subst eq;omega
  ·omega
 have hrel:=h.rel i e he hlt
 have sX:∀v,(if v=e.x then N+1 else s v)≤N+1:=by intro v;split;omega;have:=h.sN v;omega
 refine ⟨fun v=>if v=e.x then r else t v,fun v=>if v=e.x then N+1 else s v,N+1,by simp [h.lx],by simp [h.lb],fun v v0 v1 => ?_,fun k e2 hk h2 => ?_,fun v => ?_,fun u v hu huv => ?_,sX, .inr ⟨x0,x1,by simp⟩,fun v v0 v1 => ?_⟩
 ·by_cases hv:v=e.x
  ·right
   refine ⟨i,e,by rw [hgb v v0,if_pos hv],he,hv.symm,?_,?_,?_,?_,?_⟩
   ·rw [hgx v v0,if_pos hv,hgx e.y y0,if_neg (jJ hne)];omega
   ·intro hs;rw [if_pos hv,if_neg (jJ hne)] at hs;have:=h.sN e.y;omega
   ·simp [hv]
   ·rw [if_pos hv,if_neg (jJ hne)];exact hrel.1
   ·simp [hv]
  ·rcases h.par v v0 v1 with ⟨p1,p2,p3⟩|⟨k,e2,p1,p2,p3,p4,p5,p6,p7,p8⟩
   ·left;exact ⟨by rw [hgb v v0,if_neg hv];exact p1,by simp [hv,p2],by simp [hv,p3]⟩
   ·right
    obtain ⟨_,_,y20,y21,hne2,_,_⟩:=hl k e2 p2
    refine ⟨k,e2,by rw [hgb v v0,if_neg hv];exact p1,p2,p3,?_,?_,by simp [hv,p6],?_,by simp [hv,p8]⟩
    ·rw [hgx v v0,if_neg hv];have:=hgle e2.y y20;omega
    ·intro hs;rw [hgx v v0,if_neg hv]
     by_cases hy:e2.y=e.x
     ·rw [hgx e2.y y20,if_pos hy];rw [hy] at p4;omega
     ·rw [if_neg hv,if_neg hy] at hs
      have:=p5 hs;have:=hgle e2.y y20;omega
    ·rw [if_neg hv];split
     ·have:=h.tr v;omega
     ·exact p7
 ·obtain ⟨x20,x21,y20,y21,hne2,_,_⟩:=hl k e2 hk
  by_cases hki:k=i
  ·subst hki;rw [he] at hk;injection hk with hk;subst hk
   rw [hgx e.x x0,if_pos rfl,hgx e.y y0,if_neg (jJ hne)] at h2;omega
  ·by_cases hy:e2.y=e.x
   ·simp [hy];omega
   ·rw [hgx e2.y y20,if_neg hy] at h2
    have h3:gi xs e2.y+e2.c<gi xs e2.x:=by have:=hgle e2.x x20;omega
    obtain ⟨r1,r2⟩:=h.rel k e2 hk h3
    simp only [if_neg hy]
    exact ⟨r1,fun hk'=>r2 (by omega)⟩
 ·show (if v=e.x then (r:Int) else t v)≤r
  split
  ·omega
  ·exact h.tr v
 ·by_cases h1:u=e.x<;>by_cases h2:v=e.x
  ·rw [h1,h2]
  ·rw [if_pos h1,if_neg h2] at huv;have:=h.sN v;omega
  ·rw [if_neg h1,if_pos h2] at huv;have:=h.sN u;omega
  ·rw [if_neg h1] at hu;rw [if_neg h1,if_neg h2] at huv;exact h.inj u v hu huv
 ·have h3:M * ((r * l.length+(i+1):Nat):Int)=M * ((r * l.length+i:Nat):Int)+M:=by
   rw [show ((r * l.length+(i+1):Nat):Int)=((r * l.length+i:Nat):Int)+1 by omega,kD,jU]
  have b1:=h.bd v v0 v1
  have b2:=h.bd e.y y0 y1
  have b3:=h.bd e.x x0 x1
  rw [hgx v v0]
  split<;>omega
theorem Bell.next {n:Nat} {M:Int} {l:List Diff} {r:Nat} {xs bs:List Int} {last:Int} (h:Bell n M l r l.length xs bs last):Bell n M l (r+1) 0 xs bs (-1):=by
 obtain ⟨t,s,N,h⟩:=h
 refine ⟨t,s,N,h.lx,h.lb,h.par,fun k e hk hlt=>⟨?_,fun h0=>by omega⟩,fun v=>by have:=h.tr v;omega,h.inj,h.sN, .inl ⟨rfl,fun v=>by have:=h.tr v;omega⟩,fun v h0 h1 => ?_⟩
 ·have:=(h.rel k e hk hlt).2 (zG.1 hk).1;omega
 ·have:=h.bd v h0 h1
  rw [show (r+1) * l.length+0=r * l.length+l.length by rw [vU];omega];exact this
theorem Bell.solved {n:Nat} {M:Int} {l:List Diff} {r:Nat} {xs bs:List Int} (h:Bell n M l r l.length xs bs (-1)) {k:Nat} {e:Diff} (hk:l[k]? = some e):gi xs e.x≤gi xs e.y+e.c:=by
 obtain ⟨t,s,N,h⟩:=h
 rcases Int.lt_or_le (gi xs e.y+e.c) (gi xs e.x) with hlt|hge
 ·have h1:=(h.rel k e hk hlt).2 (zG.1 hk).1
  rcases h.last with ⟨_,h2⟩|⟨h2,_⟩
  ·have:=h2 e.y;omega
  ·omega
 ·exact hge
theorem Bell.lens {n:Nat} {M:Int} {l:List Diff} {r i:Nat} {xs bs:List Int} {last:Int} (h:Bell n M l r i xs bs last):xs.length=n∧bs.length=n:=by
 obtain ⟨t,s,N,h⟩:=h;exact ⟨h.lx,h.lb⟩
theorem Bell.bound {n:Nat} {M:Int} {l:List Diff} {r i:Nat} {xs bs:List Int} {last:Int} (h:Bell n M l r i xs bs last):∀v:Int,0≤v→v<n → -(M * ((r * l.length+i:Nat):Int))≤gi xs v∧gi xs v≤0:=by
 obtain ⟨t,s,N,h⟩:=h;exact h.bd
def Way (n:Nat) (l:List Diff) (bs:List Int) (p:Nat→Int):Prop :=
 ∀j,0≤p j∧p j<n∧∃(k:Nat) (e:Diff),gi bs (p j)=k∧l[k]? = some e∧e.x=p j∧e.y=p (j+1)
theorem pigeon (n:Nat) (p:Nat→Int) (h:∀j,j≤n→0≤p j∧p j<n):∃j k,j<k∧k≤n∧p j=p k:=by
 induction n generalizing p with
 | zero=>have:=h 0 (by omega);omega
 | succ n ih =>
  by_cases hx:∃j,j≤n∧p j=p (n+1)
  ·obtain ⟨j,hj,e⟩:=hx;exact ⟨j,n+1,by omega,by omega,e⟩
  ·have hne:∀j,j≤n→p j≠p (n+1):=fun j hj e=>hx ⟨j,hj,e⟩
   have hl:=h (n+1) (by omega)
   obtain ⟨j,k,h1,h2,h3⟩:=ih (fun j=>if p j=n then p (n+1) else p j) (fun j hj=>by
    have h1:=h j (by omega);have h2:=hne j hj
    show 0≤(if p j=n then p (n+1) else p j)∧(if p j=n then p (n+1) else p j)<n
    split<;>omega)
   refine ⟨j,k,h1,by omega,?_⟩
   have hj:=hne j (by omega)
   have hk:=hne k (by omega)
   split at h3<;>split at h3<;>omega
theorem least_of {P:Nat→Prop} {d:Nat} (h0:0<d) (h:P d):∃m,0<m∧m≤d∧P m∧∀k,0<k→k<m→¬P k:=by
 induction d using Nat.strongRecOn with
 | ind d ih =>
  by_cases hx:∃k,0<k∧k<d∧P k
  ·obtain ⟨k,k0,kd,hk⟩:=hx
   obtain ⟨m,m0,m1,m2,m3⟩:=ih k kd k0 hk
   exact ⟨m,m0,by omega,m2,m3⟩
  ·exact ⟨d,h0,by omega,h,fun k k0 kd hk=>hx ⟨k,k0,kd,hk⟩⟩
def itN (f:Int→Int) (a:Int):Nat→Int
 | 0=>a
 | j+1=>f (itN f a j)
def oR (l:List Diff) (bs:List Int) (p:Nat→Int) (a:Nat):Nat→Int
 | 0=>0
 | m+1=>oR l bs p a m+((l[(gi bs (p (a+m))).toNat]?).getD ⟨0,0,0⟩).c
theorem Bell.way {n:Nat} {M:Int} {l:List Diff} {r:Nat} {xs bs:List Int} {last:Int} (h:Bell n M l r l.length xs bs last) (hl:iW n M l) (h0:0≤last) (hr:n≤r+1) :
  ∃p:Nat→Int,p 0=last∧Way n l bs p∧∃d,0<d∧d≤n∧p (n+d)=p n∧(∀m,0<m→m<d→p (n+m)≠p n)∧oR l bs p n d<0:=by
 obtain ⟨t,s,N,h⟩:=h
 have hlast:0≤last∧last<n∧t last=r:=by
  rcases h.last with ⟨h1,_⟩|h1
  ·omega
  ·exact h1
 let nxt:Int→Int:=fun v=>((l[(gi bs v).toNat]?).getD ⟨0,0,0⟩).y
 let p:Nat→Int:=itN nxt last
 have hp:∀j,p (j+1)=nxt (p j):=fun _=>rfl
 have hstep:∀v:Int,0≤v→v<n→gi bs v ≠ -1→0≤nxt v∧nxt v<n∧t v-1≤t (nxt v)∧∃(k:Nat) (e:Diff),gi bs v=k∧l[k]? = some e∧e.x=v∧e.y=nxt v:=by
  intro v v0 v1 hv
  rcases h.par v v0 v1 with ⟨p1,_⟩|⟨k,e,p1,p2,p3,p4,p5,p6,p7,p8⟩
  ·exact absurd p1 hv
  ·have e1:nxt v=e.y:=by show ((l[(gi bs v).toNat]?).getD ⟨0,0,0⟩).y=e.y;rw [p1,Int.toNat_natCast,p2];rfl
   obtain ⟨_,_,y0,y1,_⟩:=hl k e p2
   rw [e1]
   exact ⟨y0,y1,p7,k,e,p1,p2,p3,rfl⟩
 have hgood:∀v:Int,0≤v→v<n→0≤t v→gi bs v ≠ -1:=by
  intro v v0 v1 tv hb
  rcases h.par v v0 v1 with ⟨_,p2,_⟩|⟨k,e,p1,_⟩
  ·omega
  ·omega
 have hch:∀j,j≤n→(0≤p j∧p j<n)∧(r:Int)-j≤t (p j):=by
  intro j
  induction j with
  | zero=>intro _;exact ⟨⟨hlast.1,hlast.2.1⟩,by show (r:Int)-0≤t last;omega⟩
  | succ j ih =>
   intro hj
   obtain ⟨⟨a0,a1⟩,a2⟩:=ih (by omega)
   obtain ⟨b0,b1,b2,_⟩:=hstep (p j) a0 a1 (hgood _ a0 a1 (by omega))
   rw [hp j]
   exact ⟨⟨b0,b1⟩,by omega⟩
 obtain ⟨j,k,hjk,hkn,hpe⟩:=pigeon n p fun j hj=>(hch j hj).1
 have hper:∀m,p (j+m+(k-j))=p (j+m):=by
  intro m
  induction m with
  | zero=>rw [kU,show j+(k-j)=k by omega];exact hpe.symm
  | succ m ih=>rw [show j+(m+1)+(k-j)=j+m+(k-j)+1 by omega,hp,ih,show j+(m+1)=j+m+1 by omega,hp]
 have hall:∀m,(0≤p m∧p m<n)∧gi bs (p m) ≠ -1:=by
  intro m
  induction m using Nat.strongRecOn with
  | ind m ih =>
   by_cases hm:m<n
   ·obtain ⟨a,b⟩:=hch m (by omega)
    exact ⟨a,hgood _ a.1 a.2 (by omega)⟩
   ·have e:p m=p (m-(k-j)):=by
     have:=hper (m-(k-j)-j)
     rw [show j+(m-(k-j)-j)+(k-j)=m by omega,show j+(m-(k-j)-j)=m-(k-j) by omega] at this
     exact this
    rw [e];exact ih _ (by omega)
 have hway:Way n l bs p:=fun m=>by
  obtain ⟨⟨a0,a1⟩,a2⟩:=hall m
  obtain ⟨_,_,_,k,e,q1,q2,q3,q4⟩:=hstep (p m) a0 a1 a2
  exact ⟨a0,a1,k,e,q1,q2,q3,by rw [q4,hp]⟩
 obtain ⟨d,d0,d1,d2,d3⟩:=least_of (P:=fun d=>p (n+d)=p n) (d:=k-j) (by omega) (by
  have:=hper (n-j)
  rwa [show j+(n-j)=n by omega] at this)
 refine ⟨p,rfl,hway,d,d0,by omega,d2,d3,?_⟩
 have hedge:∀m,gi xs (p (m+1))+((l[(gi bs (p m)).toNat]?).getD ⟨0,0,0⟩).c≤gi xs (p m)∧(s (p m)<s (p (m+1))→gi xs (p (m+1))+((l[(gi bs (p m)).toNat]?).getD ⟨0,0,0⟩).c<gi xs (p m))∧0<s (p m)∧p (m+1)≠p m:=by
  intro m
  obtain ⟨⟨a0,a1⟩,a2⟩:=hall m
  rcases h.par (p m) a0 a1 with ⟨p1,_⟩|⟨k,e,p1,p2,p3,p4,p5,p6,p7,p8⟩
  ·exact absurd p1 a2
  ·have e1:p (m+1)=e.y:=by rw [hp];show ((l[(gi bs (p m)).toNat]?).getD ⟨0,0,0⟩).y=e.y;rw [p1,Int.toNat_natCast,p2];rfl
   rw [e1,p1,Int.toNat_natCast,p2]
   obtain ⟨_,_,_,_,hne,_⟩:=hl k e p2
   exact ⟨p4,p5,p8,by rw [←p3];exact jJ hne⟩
 have htel:∀m,gi xs (p (n+m))+oR l bs p n m≤gi xs (p n)∧((∃q,q<m∧s (p (n+q))<s (p (n+q+1)))→gi xs (p (n+m))+oR l bs p n m<gi xs (p n)):=by
  intro m
  induction m with
  | zero=>exact ⟨by simp [oR],fun ⟨q,hq,_⟩=>by omega⟩
  | succ m ih =>
   obtain ⟨i1,i2⟩:=ih
   obtain ⟨g1,g2,_,_⟩:=hedge (n+m)
   rw [show n+(m+1)=n+m+1 by omega,oR]
   refine ⟨by omega,fun ⟨q,hq,hs⟩ => ?_⟩
   by_cases hqm:q=m
   ·subst hqm;have:=g2 hs;omega
   ·have:=i2 ⟨q,by omega,hs⟩;omega
 obtain ⟨t1,t2⟩:=htel d
 rw [d2] at t1 t2
 have:∃q,q<d∧s (p (n+q))<s (p (n+q+1)):=by
  refine qE fun hno => ?_
  have hdn:∀q,q≤d→s (p (n+d))≤s (p (n+(d-q))):=by
   intro q
   induction q with
   | zero=>intro _;exact Nat.le_refl _
   | succ q ih =>
    intro hq
    have h1:=ih (by omega)
    have h2:¬s (p (n+(d-(q+1))))<s (p (n+(d-(q+1))+1)):=fun hs=>hno ⟨d-(q+1),by omega,hs⟩
    rw [show n+(d-(q+1))+1=n+(d-q) by omega] at h2
    omega
  have h1:=hdn (d-1) (by omega)
  rw [show n+(d-(d-1))=n+1 by omega,d2] at h1
  have h2:¬s (p (n+0))<s (p (n+0+1)):=fun hs=>hno ⟨0,d0,hs⟩
  simp only [kU] at h2
  obtain ⟨_,_,g3,g4⟩:=hedge n
  exact g4 (h.inj (p (n+1)) (p n) (by omega) (by omega))
 have:=t2 this
 omega
end Go.Proofs.Yticieifacalocaa
