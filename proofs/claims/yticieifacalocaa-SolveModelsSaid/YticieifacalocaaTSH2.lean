/- Words Num Model HoldsR AnyR Bound Form Lit -/
import Derived.Test.YticieifacalocaaRows
import Derived.WalkKit
import Derived.Handy
import Derived.Outline
import Derived.Lib.Hide
import Derived.BigQuiet
import Derived.Test.YticieifacalocaaTSH1
namespace Go.Proofs.Yticieifacalocaa
open Go.RowKit
def I64 (x:Int):Prop := -9223372036854775808≤x∧x≤9223372036854775807
def Rd (w:World) (A:Option Addr) (xs:List Value):Prop :=
 0<xs.length→∃b off,A=some ⟨b,off,none⟩∧b<w.heap.size∧∀j u,xs[j]? = some u→w.cell? ⟨b,off+j,none⟩=some u
theorem Rd.keep {w w':World} {A:Option Addr} {xs:List Value} (h:Rd w A xs) (hb:Below w.heap.size w w'):Rd w' A xs:=by
 intro h0
 obtain ⟨b,off,hA,hlt,hc⟩:=h h0
 exact ⟨b,off,hA,zZ hlt hb.size,fun j u hu=>(hb.cell (p:=⟨b,off+j,none⟩) hlt).trans (hc j u hu)⟩
theorem Rd.nil (w:World) (A:Option Addr):Rd w A []:=fun h=>absurd h (by simp)
def Ints (w:World) (v:Value) (xs:List Int):Prop :=
 ∃A c,v = .slice A xs.length c∧xs.length≤c∧c≤maxLen∧(∀x∈xs,I64 x)∧Rd w A (xs.map (Value.int .i64))
theorem Ints.keep {w w':World} {v:Value} {xs:List Int} (h:Ints w v xs) (hb:Below w.heap.size w w'):Ints w' v xs:=by
 obtain ⟨A,c,hv,hl,hm,hx,hr⟩:=h
 exact ⟨A,c,hv,hl,hm,hx,hr.keep hb⟩
theorem wL {α:Type} {l:List α} {k:Nat} {x:α} (h:l[k]? = some x):l.take (k+1)=l.take k++[x]:=by
 rw [xI,h];rfl
theorem Rd.at_ {w:World} {A:Option Addr} {xs:List Value} (h:Rd w A xs) {k:Nat} {u:Value} (hk:xs[k]? = some u) :
  ∃b off,A=some ⟨b,off,none⟩∧b<w.heap.size∧w.cell? ⟨b,off+k,none⟩=some u:=by
 have hl:k<xs.length:=(zG.1 hk).1
 obtain ⟨b,off,hA,hlt,hc⟩:=h (by omega)
 exact ⟨b,off,hA,hlt,hc k u hk⟩
theorem Rd.int {w:World} {A:Option Addr} {xs:List Int} (h:Rd w A (xs.map (Value.int .i64))) {k:Nat} {x:Int} (hk:xs[k]? = some x) :
  ∃b off,A=some ⟨b,off,none⟩∧b<w.heap.size∧w.cell? ⟨b,off+k,none⟩=some (.int .i64 x) :=
 h.at_ (by rw [List.getElem?_map,hk];rfl)
def Blk (w:World) (g:Nat) (t:TypeId) (cs:Array Value):Prop:=w.heap[g]? = some (.cells cs t (0,0))
section
variable {w w':World} {g:Nat} {t:TypeId} {cs:Array Value}
theorem Blk.lt (h:Blk w g t cs):g<w.heap.size:=by
 rcases xW g w.heap.size with hlt|hge
 ·exact hlt
 ·unfold Blk at h;rw [Array.getElem?_eq_none hge] at h;cases h
theorem Blk.cell (h:Blk w g t cs) (i:Nat):w.cell? ⟨g,i,none⟩=cs[i]? := cell_of_row w g i cs t (0,0) h
theorem Blk.frozen (h:Blk w g t cs) (i:Nat):w.frozen? ⟨g,i,none⟩=false:=by
 unfold Blk at h
 simp [World.frozen?,h]
theorem Blk.new (w:World) (t:TypeId) (cs:Array Value):Blk (w.alloc (.cells cs t)) w.heap.size t cs:=heap_alloc_new w _
theorem Blk.alloc (h:Blk w g t cs) (o:Obj):Blk (w.alloc o) g t cs:=(Below.heap_alloc w o g h.lt).trans h
theorem Blk.below {B:Nat} (h:Blk w g t cs) (hb:Below B w w') (hg:g<B):Blk w' g t cs:=(hb.block g hg).trans h
theorem Blk.keep (h:Blk w g t cs) (hb:Below w.heap.size w w'):Blk w' g t cs:=h.below hb h.lt
theorem Blk.far (h:Blk w g t cs) {p:Addr} (hp:g≠p.block) (u:Value):Blk (w.setCell p u) g t cs:=(kI w p u g hp).trans h
theorem Blk.set_ (h:Blk w g t cs) (i:Nat) (u:Value):Blk (w.setCell ⟨g,i,none⟩ u) g t (cs.setIfInBounds i u):=by
 unfold Blk at h ⊢
 simp [World.setCell,Array.getElem?_modify,h]
theorem Blk.drew (h:Blk w g t cs):Blk w.drew g t cs:=h
theorem Blk.drewN (h:Blk w g t cs) (n:Nat):Blk (w.drewN n) g t cs:=h
end
theorem aW {B:Nat} {a w:World} (h:Below B a w) (n:Nat):Below B a (w.drewN n):=⟨h.os,h.tape,h.output,h.size,h.block⟩
theorem cF (x:Int) (w:World) (hx:0<x) (hy:x≤9223372036854775807) :
  Calls Try.prog 79 #[.int .i64 x] w fun e w'=>e = .returned (.int .i64 (x-1))∧w=w':=by
 go_enter Try.func79,Try.ntmps79
 go_wp2
 go_ret
 exact ⟨rfl,rfl⟩
theorem cJ (x:Int) (w:World) (hx:x<0) (hy : -9223372036854775808≤x) :
  Calls Try.prog 79 #[.int .i64 x] w fun e w'=>e = .returned (.int .i64 (-(x+1)))∧w=w':=by
 go_enter Try.func79,Try.ntmps79
 go_wp2
 go_ret
 exact ⟨rfl,rfl⟩
theorem aV (w:World) :
  Calls Try.prog 79 #[.int .i64 0] w fun e w'=>e = .returned (.int .i64 (-1))∧w=w':=by
 go_enter Try.func79,Try.ntmps79
 go_wp2
 go_ret
 exact ⟨rfl,rfl⟩
def varOf (x:Int):Int:=if 0<x then x-1 else if x<0 then -(x+1) else -1
theorem oB (x:Int) (w:World) (hx:I64 x) :
  Calls Try.prog 79 #[.int .i64 x] w fun e w'=>e = .returned (.int .i64 (varOf x))∧w=w':=by
 obtain ⟨h1,h2⟩:=hx
 unfold varOf
 by_cases a:0<x
 ·rw [if_pos a];exact cF x w a h2
 ·rw [if_neg a]
  by_cases b:x<0
  ·rw [if_pos b];exact cJ x w b h1
  ·rw [if_neg b]
   obtain rfl:x=0:=by omega
   exact aV w
theorem abs_nonneg (x:Int) (w:World) (hx:0≤x) :
  Calls Try.prog 48 #[.int .i64 x] w fun e w'=>e = .returned (.int .i64 x)∧w=w':=by
 go_enter Try.func48,Try.ntmps48
 go_wp2
 go_ret
 exact ⟨rfl,rfl⟩
theorem abs_neg (x:Int) (w:World) (hx:x<0) (hy : -9223372036854775808<x) :
  Calls Try.prog 48 #[.int .i64 x] w fun e w'=>e = .returned (.int .i64 (-x))∧w=w':=by
 go_enter Try.func48,Try.ntmps48
 go_wp2
 go_ret
 exact ⟨rfl,rfl⟩
def Bools (w:World) (v:Value) (bs:List Bool):Prop :=
 ∃A c,v = .slice A bs.length c∧bs.length≤c∧c≤maxLen∧Rd w A (bs.map Value.bool)
theorem Bools.keep {w w':World} {v:Value} {xs:List Bool} (h:Bools w v xs) (hb:Below w.heap.size w w'):Bools w' v xs:=by
 obtain ⟨A,c,hv,hl,hm,hr⟩:=h
 exact ⟨A,c,hv,hl,hm,hr.keep hb⟩
theorem Rd.bool {w:World} {A:Option Addr} {xs:List Bool} (h:Rd w A (xs.map Value.bool)) {k:Nat} {x:Bool} (hk:xs[k]? = some x) :
  ∃b off,A=some ⟨b,off,none⟩∧b<w.heap.size∧w.cell? ⟨b,off+k,none⟩=some (.bool x) :=
 h.at_ (by rw [List.getElem?_map,hk];rfl)
def holds (bs:List Bool) (lit:Int):Bool :=
 if 0<lit then bs.getD (lit-1).toNat false else if lit<0 then (bs[(-lit-1).toNat]?).any (!·) else false
theorem bF (bs:List Bool) (n:Nat):holds bs ((n:Int)+1)=bs.getD n false:=by
 unfold holds
 rw [if_pos (by omega),show ((n:Int)+1-1).toNat=n from by omega]
theorem bC (bs:List Bool) (n:Nat):holds bs (-((n:Int)+1))=(bs[n]?).any (!·):=by
 unfold holds
 rw [if_neg (by omega),if_pos (by omega),show (-(-((n:Int)+1))-1).toNat=n from by omega]
theorem cA (lit:Int):lit=0∨(∃n:Nat,lit=(n:Int)+1)∨(∃n:Nat,lit = -((n:Int)+1)):=by
 rcases Int.lt_trichotomy lit 0 with h|h|h
 ·exact .inr (.inr ⟨(-lit-1).toNat,by omega⟩)
 ·exact .inl h
 ·exact .inr (.inl ⟨(lit-1).toNat,by omega⟩)
theorem mL {α:Type} {l:List α} {p:α→Bool} {k:Nat} {x:α} (h:(l.take k).any p=false) (hk:l[k]? = some x) (hx:p x=false):(l.take (k+1)).any p=false:=by
 rw [wL hk,List.any_append,h];simp [hx]
theorem any_at {α:Type} {l:List α} {p:α→Bool} {k:Nat} {x:α} (hk:l[k]? = some x) (hx:p x=true):l.any p=true:=by
 rw [kC];exact ⟨x,List.mem_of_getElem? hk,hx⟩
theorem oI {α:Type} {l:List α} {p:α→Bool} {k:Nat} (h:(l.take k).any p=false) (hk:l.length≤k):l.any p=false:=by
 rwa [zU hk] at h
section
variable (bv iv:Value) (bs:List Bool) (w:World)
theorem rV :
  Calls Try.prog 29 #[.int .i64 0, .agg #[bv,iv]] w fun e w'=>e = .returned (.bool false)∧Below w.heap.size w w':=by
 go_enter Try.func29,Try.ntmps29
 go_wp2
 go_ret
 exact ⟨rfl,by go_grown⟩
theorem rholds_pos (n:Nat) (hb:Bools w bv bs) (hl:n+1≤9223372036854775807) :
  Calls Try.prog 29 #[.int .i64 ((n:Int)+1), .agg #[bv,iv]] w fun e w'=>e = .returned (.bool (bs.getD n false))∧Below w.heap.size w w':=by
 obtain ⟨A,c,rfl,h1,h2,hr⟩:=hb
 unfold maxLen at h2
 have hz:(((n:Int)+1) == 0)=false:=by simp;omega
 by_cases hlt:n<bs.length
 ·obtain ⟨x,hx⟩:∃x,bs[n]? = some x:=⟨_,List.getElem?_eq_getElem hlt⟩
  obtain ⟨b1,o1,rfl,hb1,hc1⟩:=hr.bool hx
  have HX:bs.getD n false=x:=by simp [List.getD,hx]
  rw [HX]
  clear hx hr HX
  have h3:decide ((bs.length:Int)<(n:Int)+1)=false:=by simp;omega
  have h4:decide ((n:Int)+1 < -(bs.length:Int))=false:=by simp;omega
  go_enter Try.func29,Try.ntmps29
  go_wp2
  go_ret
  exact ⟨by simp,by go_grown⟩
 ·have HX:bs.getD n false=false:=by simp [List.getD,List.getElem?_eq_none (Nat.le_of_not_lt hlt)]
  rw [HX]
  clear hr HX
  have h3:decide ((bs.length:Int)<(n:Int)+1)=true:=by simp;omega
  go_enter Try.func29,Try.ntmps29
  go_wp2
  go_ret
  exact ⟨by simp,by go_grown⟩
theorem rZ (n:Nat) (hb:Bools w bv bs) (hl:n+1≤9223372036854775808) :
  Calls Try.prog 29 #[.int .i64 (-((n:Int)+1)), .agg #[bv,iv]] w fun e w'=>e = .returned (.bool ((bs[n]?).any (!·)))∧Below w.heap.size w w':=by
 obtain ⟨A,c,rfl,h1,h2,hr⟩:=hb
 unfold maxLen at h2
 have hz:((-((n:Int)+1)) == 0)=false:=by simp;omega
 have h3:decide ((bs.length:Int) < -((n:Int)+1))=false:=by simp;omega
 by_cases hlt:n<bs.length
 ·obtain ⟨x,hx⟩:∃x,bs[n]? = some x:=⟨_,List.getElem?_eq_getElem hlt⟩
  obtain ⟨b1,o1,rfl,hb1,hc1⟩:=hr.bool hx
  rw [hx]
  clear hx hr
  have h4:decide (-((n:Int)+1) < -(bs.length:Int))=false:=by simp;omega
  go_enter Try.func29,Try.ntmps29
  go_wp2
  go_ret
  exact ⟨by simp,by go_grown⟩
 ·have HX:(bs[n]?).any (!·)=false:=by simp [List.getElem?_eq_none (Nat.le_of_not_lt hlt)]
  rw [HX]
  clear hr HX
  have h4:decide (-((n:Int)+1) < -(bs.length:Int))=true:=by simp;omega
  go_enter Try.func29,Try.ntmps29
  go_wp2
  go_ret
  exact ⟨by simp,by go_grown⟩
theorem rW (lit:Int) (hb:Bools w bv bs) (hl:I64 lit) :
  Calls Try.prog 29 #[.int .i64 lit, .agg #[bv,iv]] w fun e w'=>e = .returned (.bool (holds bs lit))∧Below w.heap.size w w':=by
 obtain ⟨hl1,hl2⟩:=hl
 rcases cA lit with rfl|⟨n,rfl⟩|⟨n,rfl⟩
 ·exact rV bv iv w
 ·rw [bF];exact rholds_pos bv iv bs w n hb (by omega)
 ·rw [bC];exact rZ bv iv bs w n hb (by omega)
end
section
variable (bv iv:Value) (bs:List Bool)
set_option maxRecDepth 100000 in
theorem rK (v:Value) (zs:List Int) (w:World) (hv:Ints w v zs) (hB:Bools w bv bs) :
  Calls Try.prog 23 #[v, .agg #[bv,iv]] w fun e w'=>e = .returned (.bool (zs.any (holds bs)))∧Below w.heap.size w w':=by
 obtain ⟨A,c,rfl,h1,h2,h3,hr⟩:=hv
 unfold maxLen at h2
 have HX:=Lib.hid h3
 have HR:=Lib.hid hr
 have HBO:=Lib.hid hB
 obtain ⟨A',c',rfl,h1',h2', -⟩:=hB
 clear h3 hr h2'
 go_enter Try.func23,Try.ntmps23
 go_wp2_with fail
 have B0:=Blk.new w 35 #[.slice A' bs.length c',iv]
 generalize hW:w.alloc (.cells #[.slice A' bs.length c',iv] 35)=W at B0 ⊢
 have hbW:Below w.heap.size w W:=by rw [←hW];go_grown
 have HBW:=Lib.hid hbW
 have hszW:w.heap.size<W.heap.size:=by rw [←hW];simp
 have HB0:=Lib.hid B0
 clear hW B0 hbW
 go_loopw [9] (fun i wr=>∃k:Nat,k≤zs.length∧i = .int .i64 k∧(zs.take k).any (holds bs)=false∧Below W.heap.size W wr) (fun i _=>zs.length-(intOf i).toNat)
 case atStart=>exact ⟨0,by omega,rfl,by simp,zR _ _⟩
 case round =>
  obtain ⟨k,hk,rfl,hany,hbw⟩:=hrel
  have HBR:=Lib.hid hbw
  have HAN:=Lib.hid hany
  have B1:=HB0.out.keep hbw
  have q0:=B1.cell 0
  have q1:=B1.cell 1
  simp only [zA,zB,zC] at q0 q1
  have HBB:Hid (Below w.heap.size w wr):=HBW.out.trans (hbw.mono HBW.out.size)
  clear hbw hany B1
  by_cases hlt:k<zs.length
  ·obtain ⟨x,hxk⟩:∃x,zs[k]? = some x:=⟨_,List.getElem?_eq_getElem hlt⟩
   obtain ⟨b1,o1,rfl,hb1,hc1⟩:=(HR.out.keep HBB.out).int hxk
   have HXK:=Lib.hid hxk
   clear hxk
   go_wp2_with fail
   refine (rW _ _ bs _ _ (HBO.out.keep HBB.out) (HX.out x (List.mem_of_getElem? HXK.out))).mono ?_
   rintro e w2 ⟨rfl,hb2⟩
   have HB2:=Lib.hid hb2
   clear hb2
   cases hq:holds bs x with
   | true =>
    have HQ:=Lib.hid hq
    clear hq
    simp only
    go_wp2_with fail
    go_ret
    exact ⟨by rw [any_at HXK.out HQ.out];rfl,HBB.out.trans (HB2.out.mono HBB.out.size)⟩
   | false =>
    have HQ:=Lib.hid hq
    clear hq
    simp only
    go_wp2_with fail
    refine ⟨⟨k+1,by omega,by go_num,mL HAN.out HXK.out HQ.out,HBR.out.trans (HB2.out.mono HBR.out.size)⟩,by simp [intOf];omega⟩
  ·go_wp2_with fail
   go_ret
   exact ⟨by rw [oI HAN.out (by omega)];rfl,HBB.out⟩
end
structure Diff where
 x:Int
 y:Int
 c:Int
def Diff.cells (d:Diff):List Value:=[.int .i64 d.x, .int .i64 d.y, .int .i64 d.c]
def Diff.val (d:Diff):Value := .agg #[.int .i64 d.x, .int .i64 d.y, .int .i64 d.c]
def Diff.ok (d:Diff):Prop:=I64 d.x∧I64 d.y∧I64 d.c
def Diffs (w:World) (v:Value) (ds:List Diff):Prop :=
 ∃A c,v = .slice A ds.length c∧ds.length≤c∧c≤maxLen∧(∀d∈ds,d.ok)∧Rd w A (ds.flatMap Diff.cells)
theorem Diffs.keep {w w':World} {v:Value} {xs:List Diff} (h:Diffs w v xs) (hb:Below w.heap.size w w'):Diffs w' v xs:=by
 obtain ⟨A,c,hv,hl,hm,hx,hr⟩:=h
 exact ⟨A,c,hv,hl,hm,hx,hr.keep hb⟩
theorem flat_at {ds:List Diff} {k:Nat} {d:Diff} (h:ds[k]? = some d) :
  (ds.flatMap Diff.cells)[k * 3]? = some (.int .i64 d.x)∧(ds.flatMap Diff.cells)[k * 3+1]? = some (.int .i64 d.y)∧(ds.flatMap Diff.cells)[k * 3+2]? = some (.int .i64 d.c):=by
 induction ds generalizing k with
 | nil=>simp at h
 | cons e r ih =>
  cases k with
  | zero=>simp at h;subst h;simp [Diff.cells]
  | succ k =>
   obtain ⟨h1,h2,h3⟩:=ih (k:=k) (by simpa using h)
   simp only [xT]
   have hl:e.cells.length=3:=rfl
   refine ⟨?_,?_,?_⟩
   ·rw [zL (by omega),hl,show (k+1) * 3-3=k * 3 from by omega];exact h1
   ·rw [zL (by omega),hl,show (k+1) * 3+1-3=k * 3+1 from by omega];exact h2
   ·rw [zL (by omega),hl,show (k+1) * 3+2-3=k * 3+2 from by omega];exact h3
theorem Rd.diff {w:World} {A:Option Addr} {ds:List Diff} (h:Rd w A (ds.flatMap Diff.cells)) {k:Nat} {d:Diff} (hk:ds[k]? = some d) :
  ∃b off,A=some ⟨b,off,none⟩∧b<w.heap.size∧w.cell? ⟨b,off+k * 3,none⟩=some (.int .i64 d.x)∧w.cell? ⟨b,off+k * 3+1,none⟩=some (.int .i64 d.y)∧w.cell? ⟨b,off+k * 3+2,none⟩=some (.int .i64 d.c):=by
 obtain ⟨h1,h2,h3⟩:=flat_at hk
 obtain ⟨b,off,hA,hlt,hc⟩:=h (by have:=(zG.1 h1).1;omega)
 exact ⟨b,off,hA,hlt,hc _ _ h1,hc _ _ h2,hc _ _ h3⟩
def Diff.opp (d:Diff):Diff:=⟨d.y,d.x, -d.c-1⟩
def bound (ds:List Diff) (lit:Int):Option Diff :=
 if 0<lit then ds[(lit-1).toNat]? else if lit<0 then (ds[(-lit-1).toNat]?).map Diff.opp else none
def boundVal:Option Diff→Value
 | some d => .tuple #[d.val, .bool true]
 | none => .tuple #[Diff.val ⟨0,0,0⟩, .bool false]
theorem sP (ds:List Diff):bound ds 0=none:=rfl
theorem aI (ds:List Diff) (n:Nat):bound ds ((n:Int)+1)=ds[n]? := by
 unfold bound
 rw [if_pos (by omega),show ((n:Int)+1-1).toNat=n from by omega]
theorem aJ (ds:List Diff) (n:Nat):bound ds (-((n:Int)+1))=(ds[n]?).map Diff.opp:=by
 unfold bound
 rw [if_neg (by omega),if_pos (by omega),show (-(-((n:Int)+1))-1).toNat=n from by omega]
section
variable (i j:Value) (av cv:Value) (ds:List Diff) (w:World)
theorem rN (hb:Diffs w av ds) :
  Calls Try.prog 67 #[.agg #[i,j,av,cv], .int .i64 0] w fun e w'=>e = .returned (boundVal none)∧Below w.heap.size w w':=by
 obtain ⟨A,c,rfl,h1,h2,h3,hr⟩:=hb
 unfold maxLen at h2
 clear h3 hr
 go_enter Try.func67,Try.ntmps67
 go_wp2_with (go_at_call 79;refine (aV _).mono ?_;rintro e w' ⟨rfl,rfl⟩)
 go_returns
 exact ⟨rfl,by go_grown⟩
theorem fbound_pos (n:Nat) (d:Diff) (hb:Diffs w av ds) (hd:ds[n]? = some d) (hl:n+1≤9223372036854775807) :
  Calls Try.prog 67 #[.agg #[i,j,av,cv], .int .i64 ((n:Int)+1)] w fun e w'=>e = .returned (boundVal (some d))∧Below w.heap.size w w':=by
 obtain ⟨A,c,rfl,h1,h2,h3,hr⟩:=hb
 unfold maxLen at h2
 have hlt:n<ds.length:=(zG.1 hd).1
 obtain ⟨b1,o1,rfl,hb1,hc1,hc2,hc3⟩:=hr.diff hd
 obtain ⟨x,y,z⟩:=d
 clear hd h3 hr
 go_enter Try.func67,Try.ntmps67
 go_wp2_with (go_at_call 79;refine (cF _ _ (by omega) (by omega)).mono ?_;rintro e w' ⟨rfl,rfl⟩)
 go_returns
 exact ⟨rfl,by go_grown⟩
theorem rU (n:Nat) (hb:Diffs w av ds) (hge:ds.length≤n) (hl:n+1≤9223372036854775807) :
  Calls Try.prog 67 #[.agg #[i,j,av,cv], .int .i64 ((n:Int)+1)] w fun e w'=>e = .returned (boundVal none)∧Below w.heap.size w w':=by
 obtain ⟨A,c,rfl,h1,h2,h3,hr⟩:=hb
 unfold maxLen at h2
 clear h3 hr
 go_enter Try.func67,Try.ntmps67
 go_wp2_with (go_at_call 79;refine (cF _ _ (by omega) (by omega)).mono ?_;rintro e w' ⟨rfl,rfl⟩)
 go_returns
 exact ⟨rfl,by go_grown⟩
theorem fbound_neg (n:Nat) (d:Diff) (hb:Diffs w av ds) (hd:ds[n]? = some d) (hl:n+1≤9223372036854775808) (hC : -9223372036854775807≤d.c) :
  Calls Try.prog 67 #[.agg #[i,j,av,cv], .int .i64 (-((n:Int)+1))] w fun e w'=>e = .returned (boundVal (some d.opp))∧Below w.heap.size w w':=by
 obtain ⟨A,c,rfl,h1,h2,h3,hr⟩:=hb
 unfold maxLen at h2
 have hlt:n<ds.length:=(zG.1 hd).1
 obtain ⟨b1,o1,rfl,hb1,hc1,hc2,hc3⟩:=hr.diff hd
 obtain ⟨x,y,z⟩:=d
 obtain ⟨k1,k2⟩:=(h3 _ (List.mem_of_getElem? hd)).2.2
 simp only at hC k1 k2
 clear hd h3 hr
 go_enter Try.func67,Try.ntmps67
 go_wp2_with (go_at_call 79;refine (cJ _ _ (by omega) (by omega)).mono ?_;rintro e w' ⟨rfl,rfl⟩;rw [show -(-((n:Int)+1)+1)=(n:Int) from by omega])
 go_returns
 exact ⟨rfl,by go_grown⟩
theorem nN (n:Nat) (hb:Diffs w av ds) (hge:ds.length≤n) (hl:n+1≤9223372036854775808) :
  Calls Try.prog 67 #[.agg #[i,j,av,cv], .int .i64 (-((n:Int)+1))] w fun e w'=>e = .returned (boundVal none)∧Below w.heap.size w w':=by
 obtain ⟨A,c,rfl,h1,h2,h3,hr⟩:=hb
 unfold maxLen at h2
 clear h3 hr
 go_enter Try.func67,Try.ntmps67
 go_wp2_with (go_at_call 79;refine (cJ _ _ (by omega) (by omega)).mono ?_;rintro e w' ⟨rfl,rfl⟩;rw [show -(-((n:Int)+1)+1)=(n:Int) from by omega])
 go_returns
 exact ⟨rfl,by go_grown⟩
theorem cD (lit:Int) (hb:Diffs w av ds) (hC:∀d∈ds, -9223372036854775807≤d.c) (hl:I64 lit) :
  Calls Try.prog 67 #[.agg #[i,j,av,cv], .int .i64 lit] w fun e w'=>e = .returned (boundVal (bound ds lit))∧Below w.heap.size w w':=by
 obtain ⟨hl1,hl2⟩:=hl
 rcases cA lit with rfl|⟨n,rfl⟩|⟨n,rfl⟩
 ·exact rN i j av cv ds w hb
 ·rw [aI]
  rcases xW n ds.length with h|h
  ·rw [List.getElem?_eq_getElem h];exact fbound_pos i j av cv ds w n _ hb (List.getElem?_eq_getElem h) (by omega)
  ·rw [List.getElem?_eq_none h];exact rU i j av cv ds w n hb h (by omega)
 ·rw [aJ]
  rcases xW n ds.length with h|h
  ·rw [List.getElem?_eq_getElem h];exact fbound_neg i j av cv ds w n _ hb (List.getElem?_eq_getElem h) (by omega) (hC _ (xG h))
  ·rw [List.getElem?_eq_none h];exact nN i j av cv ds w n hb h (by omega)
end
def Mat (w:World) (v:Value) (xss:List (List Int)):Prop :=
 ∃A c vs,v = .slice A xss.length c∧xss.length≤c∧c≤maxLen∧vs.length=xss.length∧Rd w A vs∧∀(k:Nat) (u:Value) (xs:List Int),vs[k]? = some u→xss[k]? = some xs→Ints w u xs
theorem Mat.keep {w w':World} {v:Value} {xss:List (List Int)} (h:Mat w v xss) (hb:Below w.heap.size w w'):Mat w' v xss:=by
 obtain ⟨A,c,vs,hv,hl,hm,hx,hr,hi⟩:=h
 exact ⟨A,c,vs,hv,hl,hm,hx,hr.keep hb,fun k u xs h1 h2=>(hi k u xs h1 h2).keep hb⟩
structure Form where
 ints:Int
 bools:Int
 atoms:List Diff
 clauses:List (List Int)
def IsForm (w:World) (v:Value) (f:Form):Prop :=
 ∃av cv,v = .agg #[.int .i64 f.ints, .int .i64 f.bools,av,cv]∧I64 f.ints∧I64 f.bools∧Diffs w av f.atoms∧Mat w cv f.clauses
theorem IsForm.keep {w w':World} {v:Value} {f:Form} (h:IsForm w v f) (hb:Below w.heap.size w w'):IsForm w' v f:=by
 obtain ⟨av,cv,hv,h1,h2,h3,h4⟩:=h
 exact ⟨av,cv,hv,h1,h2,h3.keep hb,h4.keep hb⟩
theorem Mat.at_ {w:World} {A:Option Addr} {vs:List Value} {xss:List (List Int)} (hr:Rd w A vs) (hl:vs.length=xss.length)
  (hi:∀(k:Nat) (u:Value) (xs:List Int),vs[k]? = some u→xss[k]? = some xs→Ints w u xs) {k:Nat} {xs:List Int} (hk:xss[k]? = some xs) :
  ∃b off A' c',A=some ⟨b,off,none⟩∧b<w.heap.size∧w.cell? ⟨b,off+k,none⟩=some (.slice A' xs.length c')∧Ints w (.slice A' xs.length c') xs:=by
 have hlt:k<vs.length:=by have:=(zG.1 hk).1;omega
 obtain ⟨u,hu⟩:∃u,vs[k]? = some u:=⟨_,List.getElem?_eq_getElem hlt⟩
 obtain ⟨b,off,hA,hb,hc⟩:=hr.at_ hu
 have h:=hi k u xs hu hk
 obtain ⟨A',c',rfl,h'⟩:=h
 exact ⟨b,off,A',c',hA,hb,hc,A',c',rfl,h'⟩
theorem rE {a b:Bool} (h:a=b):Ending.returned (.bool a) = .returned (.bool b):=by rw [h]
theorem cL {k:IntKind} {a b:Int} (h:a=b):Ending.returned (.int k a) = .returned (.int k b):=by rw [h]
theorem oD {p q:Prop} [Decidable p] [Decidable q] (h:p↔q):decide p=decide q:=by simp [h]
theorem bM {w w':World} {g:Nat} {xs:List Int} (hb:Blk w g 3 (xs.map (Value.int .i64)).toArray) (hk:Below w.heap.size w w') (hx:∀x∈xs,I64 x) (hl:xs.length≤maxLen) :
  Ints w' (.slice (some ⟨g,0,none⟩) xs.length xs.length) xs:=by
 have hb':=hb.keep hk
 refine ⟨_,_,rfl,Nat.le_refl _,hl,hx,fun _=>⟨g,0,rfl,hb'.lt,fun j u hu => ?_⟩⟩
 rw [hb'.cell,qZ]
 simpa using hu
theorem diffs_lit {w:World} {g:Nat} {ds:List Diff} (hb:Blk w g 50 (ds.flatMap Diff.cells).toArray) (hx:∀d∈ds,d.ok) (hl:ds.length≤maxLen) :
  Diffs w (.slice (some ⟨g,0,none⟩) ds.length ds.length) ds:=by
 refine ⟨_,_,rfl,Nat.le_refl _,hl,hx,fun _=>⟨g,0,rfl,hb.lt,fun j u hu => ?_⟩⟩
 rw [hb.cell,qZ]
 simpa using hu
theorem mat_lit {w:World} {g:Nat} {vs:List Value} {xss:List (List Int)} (hb:Blk w g 33 vs.toArray) (hl:vs.length=xss.length) (hm:xss.length≤maxLen)
  (hi:∀(k:Nat) (u:Value) (xs:List Int),vs[k]? = some u→xss[k]? = some xs→Ints w u xs) :
  Mat w (.slice (some ⟨g,0,none⟩) xss.length xss.length) xss:=by
 refine ⟨_,_,vs,rfl,Nat.le_refl _,hm,hl,fun _=>⟨g,0,rfl,hb.lt,fun j u hu => ?_⟩,hi⟩
 rw [hb.cell,qZ]
 simpa using hu
end Go.Proofs.Yticieifacalocaa
