/- Clauses BoundR CycleR NormalRef CyclicR Resolvent ClausesRef Has OwnStps StpW Refut -/
import Derived.Test.YticieifacalocaaPEX25
import Derived.Test.YticieifacalocaaPEX1
import Derived.Test.YticieifacalocaaPEX15
import Derived.Deep.RegionHeld3
import Derived.RegionTactic
import Derived.ChangeAlike
import Derived.Test.YticieifacalocaaPEX2
import Derived.Test.YticieifacalocaaPEX3
import Derived.Test.YticieifacalocaaPEX16
import Derived.Deep.RegionLaw
namespace Go.Proofs.Yticieifacalocaa
open Go.RowKit
def ClsOk (w:World) (cs:List (List Int)) (v:Value) (w':World):Prop:=∃us,OwnMat w' w.heap.size (fun b=>w.heap.size≤b) v us cs∧Below w.heap.size w w'
structure CL (w wr:World) (fv:Array Value) (v:Value) (us:List Value) (cs:List (List Int)):Prop where
 b0:Blk wr w.heap.size 29 fv
 om:OwnMat wr (w.heap.size+1) (fun b=>w.heap.size+1≤b) v us cs
 ok:∀c∈cs,OkCl c
 hi:w.heap.size+1≤wr.heap.size
 bl:Below w.heap.size w wr
section
variable {w wr w' W:World} {fv:Array Value} {v:Value} {us:List Value} {cs:List (List Int)}
theorem CL.keep (h:CL w wr fv v us cs) (hb:Below wr.heap.size wr w'):CL w w' fv v us cs :=
 ⟨h.b0.keep hb,h.om.keep hb,h.ok,Nat.le_trans h.hi hb.size,h.bl.trans (hb.mono h.bl.size)⟩
theorem CL.push {u v':Value} {c:List Int} {o:Obj} (h:CL w W fv v us cs) (hW:∀g,v.ownBlock=some g→g<W.heap.size) (h':CL w w' fv v us cs) (hu:Own w' W.heap.size u c) (hc:OkCl c) (hlo:w.heap.size+1≤W.heap.size)
  {w2:World} (ho:w2.ownsRow (w.heap.size+1) 33 1 v' (us.length+1) (us++[u])) (hg:(w'.alloc o).grownBy w2 v.ownBlock) (hat:v'.ownBlock=v.ownBlock∨v'.ownBlock=some (w'.alloc o).heap.size):CL w w2 fv v' (us++[u]) (cs++[c]):=by
 have hlt:∀g,v.ownBlock=some g→w.heap.size+1≤g:=fun g e=>(h'.om.1.lt g e).1
 refine ⟨(h'.b0.alloc o).grown hg fun e=>by have:=hlt _ e.symm;omega,h'.om.push (hu.intsO fun b hb _ _=>⟨by omega,fun e=>by have:=hW b e.symm;omega⟩) ho hg hat,fun x hx => ?_,?_,?_⟩
 ·rcases List.mem_append.1 hx with hx|hx
  ·exact h.ok x hx
  ·rw [List.mem_singleton] at hx;subst hx;exact hc
 ·have:=hg.size;have:=h'.hi;simp at this ⊢;have h3:=hg.size;simp at h3;omega
 ·exact (h'.bl.alloc h'.bl.size o).grown hg (by have:=h'.bl.size;simp;omega) fun g e=>by have:=hlt g e;omega
theorem CL.out (h:CL w wr fv v us cs):ClsOk w cs v wr:=⟨us,⟨owns_base h.om.1 (by omega),h.om.2.1,fun k u xs a b=>(h.om.2.2 k u xs a b).mono fun b _ hb=>⟨by have:=hb.1;omega,hb.2⟩⟩,h.bl⟩
end
end Go.Proofs.Yticieifacalocaa
namespace Go.Proofs.Yticieifacalocaa
open Go.RowKit
section
variable (i j:Value) (av cv:Value) (ds:List Diff) (w:World)
end
end Go.Proofs.Yticieifacalocaa
namespace Go.Proofs.Yticieifacalocaa
open Go.RowKit
end Go.Proofs.Yticieifacalocaa
namespace Go.Proofs.Yticieifacalocaa
open Go.RowKit
theorem abs_any (x:Int) (w:World) (hx:I64 x) (h0:x ≠ -9223372036854775808) :
  Calls Try.prog 48 #[.int .i64 x] w fun e w'=>e = .returned (.int .i64 (x.natAbs:Nat))∧w=w':=by
 by_cases h:0≤x
 ·have e:((x.natAbs:Nat):Int)=x:=by omega
  rw [e];exact abs_nonneg x w h
 ·have e:((x.natAbs:Nat):Int) = -x:=by omega
  rw [e];exact abs_neg x w (by omega) (by have:=hx.1;omega)
end Go.Proofs.Yticieifacalocaa
namespace Go.Proofs.Yticieifacalocaa
open Go.RowKit
structure CR (w wr:World) (fv:Array Value) (v6 v7 v8:Value) (ds:List Diff) (xs ys:List Int):Prop where
 b0:Blk wr w.heap.size 29 fv
 o6:wr.ownsRow (w.heap.size+1) 50 3 v6 ds.length (ds.flatMap Diff.cells)
 o7:wr.ownsRow (w.heap.size+1) 3 1 v7 xs.length (xs.map (Value.int .i64))
 o8:wr.ownsRow (w.heap.size+1) 3 1 v8 ys.length (ys.map (Value.int .i64))
 a67:Apart v6 v7
 a68:Apart v6 v8
 a78:Apart v7 v8
 hi:w.heap.size+1≤wr.heap.size
 bl:Below w.heap.size w wr
section
variable {w wr w':World} {fv:Array Value} {v6 v7 v8:Value} {ds:List Diff} {xs ys:List Int}
theorem CR.keep (h:CR w wr fv v6 v7 v8 ds xs ys) (hb:Below wr.heap.size wr w'):CR w w' fv v6 v7 v8 ds xs ys :=
 ⟨h.b0.keep hb,owns_keep h.o6 hb,owns_keep h.o7 hb,owns_keep h.o8 hb,h.a67,h.a68,h.a78,Nat.le_trans h.hi hb.size,h.bl.trans (hb.mono h.bl.size)⟩
end
end Go.Proofs.Yticieifacalocaa
namespace Go.Proofs.Yticieifacalocaa
open Go.RowKit
end Go.Proofs.Yticieifacalocaa
namespace Go.Proofs.Yticieifacalocaa
open Go.RowKit
end Go.Proofs.Yticieifacalocaa
namespace Go.Proofs.Yticieifacalocaa
open Go.RowKit
end Go.Proofs.Yticieifacalocaa
namespace Go.Proofs.Yticieifacalocaa
open Go.RowKit
def OwnStps (w:World) (base:Nat) (P:Nat→Prop) (v:Value) (ps:List (Stp × Value)):Prop :=
 w.ownsRow base 91 6 v ps.length (ps.flatMap Stp.cells)∧∀q∈ps,IntsO w (fun b=>P b∧some b≠v.ownBlock) q.2 q.1.lits∧q.1.ok
section
variable {w w':World} {base:Nat} {P Q:Nat→Prop} {v:Value} {ps:List (Stp × Value)}
theorem OwnStps.nil (w:World) (base:Nat) (P:Nat→Prop):OwnStps w base P (.slice none 0 0) []:=⟨World.ownsRow_nil _ _ _ _,by simp⟩
theorem OwnStps.keep (h:OwnStps w base P v ps) (hb:Below w.heap.size w w'):OwnStps w' base P v ps:=⟨owns_keep h.1 hb,fun q hq=>⟨(h.2 q hq).1.keep hb,(h.2 q hq).2⟩⟩
theorem OwnStps.mono (h:OwnStps w base P v ps) (hP:∀b,b<w.heap.size→P b→Q b):OwnStps w base Q v ps:=⟨h.1,fun q hq=>⟨(h.2 q hq).1.mono fun b hb hp=>⟨hP b hb hp.1,hp.2⟩,(h.2 q hq).2⟩⟩
theorem OwnStps.grown {row:Option Nat} (h:OwnStps w base P v ps) (hg:w.grownBy w' row) (hv:v.ownBlock=none∨v.ownBlock≠row) (hne:∀b,P b→some b≠row):OwnStps w' base P v ps :=
 ⟨h.1.kept hg hv,fun q hq=>⟨(h.2 q hq).1.grown hg fun b hb=>hne b hb.1,(h.2 q hq).2⟩⟩
theorem OwnStps.push {v':Value} {o:Obj} {s:Stp} {lv:Value} (h:OwnStps w base P v ps) (hu:IntsO w (fun b=>P b∧some b≠v.ownBlock) lv s.lits) (hs:s.ok)
  (ho:w'.ownsRow base 91 6 v' (ps.length+1) (ps.flatMap Stp.cells++Stp.cells (s,lv))) (hg:(w.alloc o).grownBy w' v.ownBlock) (hat:v'.ownBlock=v.ownBlock∨v'.ownBlock=some (w.alloc o).heap.size):OwnStps w' base P v' (ps++[(s,lv)]):=by
 have key:∀{u xs},IntsO w (fun b=>P b∧some b≠v.ownBlock) u xs→IntsO w' (fun b=>P b∧some b≠v'.ownBlock) u xs:=by
  intro u xs h
  refine IntsO.mono (P:=fun b=>(P b∧some b≠v.ownBlock)∧b<w.heap.size) ?_ fun b _ hb=>⟨hb.1.1,?_⟩
  ·have h1:IntsO w (fun b=>(P b∧some b≠v.ownBlock)∧b<w.heap.size) u xs:=h.mono fun b h1 h2=>⟨h2,h1⟩
   exact (h1.grown (grown_alloc w o) (fun b _=>by simp)).grown hg fun b hb=>hb.1.2
  ·rcases hat with e|e<;>rw [e]
   ·exact hb.1.2
   ·simp;have:=hb.2;omega
 refine ⟨by simpa using ho,fun q hq => ?_⟩
 rcases List.mem_append.1 hq with hq|hq
 ·exact ⟨key (h.2 q hq).1,(h.2 q hq).2⟩
 ·rw [List.mem_singleton] at hq;subst hq;exact ⟨key hu,hs⟩
end
end Go.Proofs.Yticieifacalocaa
namespace Go.Proofs.Yticieifacalocaa
open Go.RowKit
end Go.Proofs.Yticieifacalocaa
namespace Go.Proofs.Yticieifacalocaa
open Go.RowKit
structure RF (w0 wr:World) (g gv:Nat) (f:Form) (fa fc sv cv:Value) (val:List Int) (ps:List (Stp × Value)) (us:List Value) (cs:List (List Int)):Prop where
 b:Blk wr g 72 #[.int .i64 f.ints, .int .i64 f.bools,fa,fc, .slice (some ⟨gv,0,none⟩) val.length val.length,sv,cv, .slice none 0 0, .slice none 0 0]
 bv:Blk wr gv 3 (rowI val)
 os:OwnStps wr (g+1) (fun b=>g+1≤b∧some b≠cv.ownBlock) sv ps
 om:OwnMat wr (g+1) (fun b=>g+1≤b∧some b≠sv.ownBlock) cv us cs
 ap:Apart sv cv
 lo:w0.heap.size≤gv
 lt:gv<g
 hi:g+1≤wr.heap.size
 bl:Below w0.heap.size w0 wr
section
variable {w0 wr w':World} {g gv:Nat} {f:Form} {fa fc sv cv:Value} {val:List Int} {ps:List (Stp × Value)} {us:List Value} {cs:List (List Int)}
theorem RF.keep (h:RF w0 wr g gv f fa fc sv cv val ps us cs) (hb:Below wr.heap.size wr w'):RF w0 w' g gv f fa fc sv cv val ps us cs :=
 ⟨h.b.keep hb,h.bv.keep hb,h.os.keep hb,h.om.keep hb,h.ap,h.lo,h.lt,Nat.le_trans h.hi hb.size,h.bl.trans (hb.mono h.bl.size)⟩
def OffRows (g:Nat) (sv cv:Value) (b:Nat):Prop:=g+1≤b∧some b≠sv.ownBlock∧some b≠cv.ownBlock
theorem RF.steps {sv' lv:Value} {s:Stp} {o:Obj} (h:RF w0 wr g gv f fa fc sv cv val ps us cs) (hu:IntsO wr (OffRows g sv cv) lv s.lits) (hs:s.ok)
  (ho:w'.ownsRow (g+1) 91 6 sv' (ps.length+1) (ps.flatMap Stp.cells++Stp.cells (s,lv))) (hg:(wr.alloc o).grownBy w' sv.ownBlock) (hat:sv'.ownBlock=sv.ownBlock∨sv'.ownBlock=some (wr.alloc o).heap.size) :
  RF w0 (w'.setCell ⟨g,5,none⟩ sv') g gv f fa fc sv' cv val (ps++[(s,lv)]) us cs∧Blk w' g 72 #[.int .i64 f.ints, .int .i64 f.bools,fa,fc, .slice (some ⟨gv,0,none⟩) val.length val.length,sv,cv, .slice none 0 0, .slice none 0 0] ∧
  ∀u xs,IntsO wr (OffRows g sv cv) u xs→IntsO (w'.setCell ⟨g,5,none⟩ sv') (OffRows g sv' cv) u xs:=by
 have hlt:∀k,sv.ownBlock=some k→g+1≤k∧k<wr.heap.size:=fun k e=>h.os.1.lt k e
 have hltc:∀k,cv.ownBlock=some k→g+1≤k∧k<wr.heap.size:=fun k e=>h.om.1.lt k e
 have glt:=h.lt
 have hb2:Blk w' g 72 #[.int .i64 f.ints, .int .i64 f.bools,fa,fc, .slice (some ⟨gv,0,none⟩) val.length val.length,sv,cv, .slice none 0 0, .slice none 0 0] :=
  (h.b.alloc o).grown hg fun e=>by have:=hlt _ e.symm;omega
 have hset:w'.grownBy (w'.setCell ⟨g,5,none⟩ sv') (some g):=grownBy_set0 _ _ _ _
 have hos:=h.os.push (s:=s) (lv:=lv) (hu.mono fun b _ hb=>⟨⟨hb.1,hb.2.2⟩,hb.2.1⟩) hs ho hg hat
 have hom:OwnMat w' (g+1) (fun b=>g+1≤b∧some b≠sv'.ownBlock) cv us cs:=by
  have h1:OwnMat wr (g+1) (fun b=>(g+1≤b∧some b≠sv.ownBlock)∧b<wr.heap.size) cv us cs:=h.om.mono fun b hb hp=>⟨hp,hb⟩
  refine ((h1.grown (grown_alloc wr o) (own_none _) fun b _=>by simp).grown hg h.ap.symm.ne fun b hb=>hb.1.2).mono fun b _ hb=>⟨hb.1.1,?_⟩
  rcases hat with e|e<;>rw [e]
  ·exact hb.1.2
  ·simp;have:=hb.2;omega
 have hkey:∀u xs,IntsO wr (OffRows g sv cv) u xs→IntsO (w'.setCell ⟨g,5,none⟩ sv') (OffRows g sv' cv) u xs:=by
  intro u xs hx
  have h1:IntsO wr (fun b=>OffRows g sv cv b∧b<wr.heap.size) u xs:=hx.mono fun b hb hp=>⟨hp,hb⟩
  refine (((h1.grown (grown_alloc wr o) fun b _=>by simp).grown hg fun b hb=>hb.1.2.1).grown hset fun b hb=>by simp;have:=hb.1.1;omega).mono fun b _ hb=>⟨hb.1.1,?_,hb.1.2.2⟩
  rcases hat with e|e<;>rw [e]
  ·exact hb.1.2.1
  ·simp;have:=hb.2;omega
 refine ⟨⟨hb2.set_ 5 sv',((h.bv.alloc o).grown hg fun e=>by have:=hlt _ e.symm;omega).grown hset (by simp;omega),hos.grown hset (own_ne hos.1 (by omega)) fun b hb=>by simp;omega,hom.grown hset (own_ne hom.1 (by omega)) fun b hb=>by simp;omega,?_,h.lo,h.lt,?_,?_⟩,hb2,hkey⟩
 ·exact (h.ap.symm.append (fun k e=>by have:=hltc k e;simp;omega) hat).symm
 ·have h1:=hg.size;have h2:=h.hi;simp at h1 ⊢;omega
 ·have hl:=h.lo
  exact ((h.bl.alloc h.bl.size o).grown hg (by have:=h.bl.size;simp;omega) fun k e=>by have:=hlt k e;omega).grown hset (by have h1:=hg.size;have h2:=h.bl.size;simp at h1;omega) fun k e=>by injection e with e;omega
theorem RF.clauses {cv' u:Value} {c:List Int} {o:Obj} (h:RF w0 wr g gv f fa fc sv cv val ps us cs) (hu:IntsO wr (OffRows g sv cv) u c)
  (ho:w'.ownsRow (g+1) 33 1 cv' (us.length+1) (us++[u])) (hg:(wr.alloc o).grownBy w' cv.ownBlock) (hat:cv'.ownBlock=cv.ownBlock∨cv'.ownBlock=some (wr.alloc o).heap.size) :
  RF w0 (w'.setCell ⟨g,6,none⟩ cv') g gv f fa fc sv cv' val ps (us++[u]) (cs++[c])∧Blk w' g 72 #[.int .i64 f.ints, .int .i64 f.bools,fa,fc, .slice (some ⟨gv,0,none⟩) val.length val.length,sv,cv, .slice none 0 0, .slice none 0 0]:=by
 have hlt:∀k,cv.ownBlock=some k→g+1≤k∧k<wr.heap.size:=fun k e=>h.om.1.lt k e
 have hlts:∀k,sv.ownBlock=some k→g+1≤k∧k<wr.heap.size:=fun k e=>h.os.1.lt k e
 have glt:=h.lt
 have hb2:Blk w' g 72 #[.int .i64 f.ints, .int .i64 f.bools,fa,fc, .slice (some ⟨gv,0,none⟩) val.length val.length,sv,cv, .slice none 0 0, .slice none 0 0] :=
  (h.b.alloc o).grown hg fun e=>by have:=hlt _ e.symm;omega
 have hset:w'.grownBy (w'.setCell ⟨g,6,none⟩ cv') (some g):=grownBy_set0 _ _ _ _
 have hom:=h.om.push (xs:=c) (hu.mono fun b _ hb=>⟨⟨hb.1,hb.2.1⟩,hb.2.2⟩) ho hg hat
 have hos:OwnStps w' (g+1) (fun b=>g+1≤b∧some b≠cv'.ownBlock) sv ps:=by
  have h1:OwnStps wr (g+1) (fun b=>(g+1≤b∧some b≠cv.ownBlock)∧b<wr.heap.size) sv ps:=h.os.mono fun b hb hp=>⟨hp,hb⟩
  refine ((h1.grown (grown_alloc wr o) (own_none _) fun b _=>by simp).grown hg h.ap.ne fun b hb=>hb.1.2).mono fun b _ hb=>⟨hb.1.1,?_⟩
  rcases hat with e|e<;>rw [e]
  ·exact hb.1.2
  ·simp;have:=hb.2;omega
 refine ⟨⟨hb2.set_ 6 cv',((h.bv.alloc o).grown hg fun e=>by have:=hlt _ e.symm;omega).grown hset (by simp;omega),hos.grown hset (own_ne hos.1 (by omega)) fun b hb=>by simp;omega,hom.grown hset (own_ne hom.1 (by omega)) fun b hb=>by simp;omega,?_,h.lo,h.lt,?_,?_⟩,hb2⟩
 ·exact h.ap.append (fun k e=>by have:=hlts k e;simp;omega) hat
 ·have h1:=hg.size;have h2:=h.hi;simp at h1 ⊢;omega
 ·have hl:=h.lo
  exact ((h.bl.alloc h.bl.size o).grown hg (by have:=h.bl.size;simp;omega) fun k e=>by have:=hlt k e;omega).grown hset (by have h1:=hg.size;have h2:=h.bl.size;simp at h1;omega) fun k e=>by injection e with e;omega
end
open Go.RowKit
def falseB (val:List Int) (x:Int):Bool:=val.getD (x.natAbs-1) 0 == -x
end Go.Proofs.Yticieifacalocaa
