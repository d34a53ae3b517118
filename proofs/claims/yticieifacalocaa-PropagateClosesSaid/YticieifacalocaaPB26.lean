/- Clauses BoundR CycleR NormalRef CyclicR Resolvent ClausesRef Has OwnStps StpW Refut RefLaw Great DFit -/
import Derived.Test.YticieifacalocaaPB25
import Derived.Test.YticieifacalocaaPB1
import Derived.Test.YticieifacalocaaPB15
import Derived.Deep.RegionHeld3
import Derived.RegionTactic
import Derived.ChangeAlike
import Derived.Test.YticieifacalocaaPB3
import Derived.Test.YticieifacalocaaPB4
import Derived.Test.YticieifacalocaaPB16
import Derived.Deep.RegionLaw
namespace Go.Proofs.Yticieifacalocaa
open Go.RowKit
def ClsOk (w:World) (cs:List (List Int)) (v:Value) (w':World):Prop:=∃us,OwnMat w' w.heap.size (fun b=>w.heap.size≤b) v us cs∧Below w.heap.size w w'
structure CL (w wr:World) (fv:Array Value) (v:Value) (us:List Value) (cs:List (List Int)):Prop where
 b0:Blk wr w.heap.size 29 fv
 om:OwnMat wr (w.heap.size+1) (fun b=>w.heap.size+1≤b) v us cs
 ok:∀c∈cs,OkCl c
 hi:w.heap.size+1≤wr.heap.size
 bl:Below w.heap.size w wr
section
variable {w wr w' W:World} {fv:Array Value} {v:Value} {us:List Value} {cs:List (List Int)}
theorem CL.keep (h:CL w wr fv v us cs) (hb:Below wr.heap.size wr w'):CL w w' fv v us cs :=
 ⟨h.b0.keep hb,h.om.keep hb,h.ok,Nat.le_trans h.hi hb.size,h.bl.trans (hb.mono h.bl.size)⟩
theorem CL.push {u v':Value} {c:List Int} {o:Obj} (h:CL w W fv v us cs) (hW:∀g,v.ownBlock=some g→g<W.heap.size) (h':CL w w' fv v us cs) (hu:Own w' W.heap.size u c) (hc:OkCl c) (hlo:w.heap.size+1≤W.heap.size)
  {w2:World} (ho:w2.ownsRow (w.heap.size+1) 33 1 v' (us.length+1) (us++[u])) (hg:(w'.alloc o).grownBy w2 v.ownBlock) (hat:v'.ownBlock=v.ownBlock∨v'.ownBlock=some (w'.alloc o).heap.size):CL w w2 fv v' (us++[u]) (cs++[c]):=by
 have hlt:∀g,v.ownBlock=some g→w.heap.size+1≤g:=fun g e=>(h'.om.1.lt g e).1
 refine ⟨(h'.b0.alloc o).grown hg fun e=>by have:=hlt _ e.symm;omega,h'.om.push (hu.intsO fun b hb _ _=>⟨by omega,fun e=>by have:=hW b e.symm;omega⟩) ho hg hat,fun x hx => ?_,?_,?_⟩
 ·rcases List.mem_append.1 hx with hx|hx
  ·exact h.ok x hx
  ·rw [List.mem_singleton] at hx;subst hx;exact hc
 ·have:=hg.size;have:=h'.hi;simp at this ⊢;have h3:=hg.size;simp at h3;omega
 ·exact (h'.bl.alloc h'.bl.size o).grown hg (by have:=h'.bl.size;simp;omega) fun g e=>by have:=hlt g e;omega
theorem CL.out (h:CL w wr fv v us cs):ClsOk w cs v wr:=⟨us,⟨owns_base h.om.1 (by omega),h.om.2.1,fun k u xs a b=>(h.om.2.2 k u xs a b).mono fun b _ hb=>⟨by have:=hb.1;omega,hb.2⟩⟩,h.bl⟩
end
end Go.Proofs.Yticieifacalocaa
namespace Go.Proofs.Yticieifacalocaa
open Go.RowKit
section
variable (i j:Value) (av cv:Value) (ds:List Diff) (w:World)
end
end Go.Proofs.Yticieifacalocaa
namespace Go.Proofs.Yticieifacalocaa
open Go.RowKit
end Go.Proofs.Yticieifacalocaa
namespace Go.Proofs.Yticieifacalocaa
open Go.RowKit
theorem abs_any (x:Int) (w:World) (hx:I64 x) (h0:x ≠ -9223372036854775808) :
  Calls Try.prog 48 #[.int .i64 x] w fun e w'=>e = .returned (.int .i64 (x.natAbs:Nat))∧w=w':=by
 by_cases h:0≤x
 ·have e:((x.natAbs:Nat):Int)=x:=by omega
  rw [e];exact abs_nonneg x w h
 ·have e:((x.natAbs:Nat):Int) = -x:=by omega
  rw [e];exact abs_neg x w (by omega) (by have:=hx.1;omega)
end Go.Proofs.Yticieifacalocaa
namespace Go.Proofs.Yticieifacalocaa
open Go.RowKit
structure CR (w wr:World) (fv:Array Value) (v6 v7 v8:Value) (ds:List Diff) (xs ys:List Int):Prop where
 b0:Blk wr w.heap.size 29 fv
 o6:wr.ownsRow (w.heap.size+1) 50 3 v6 ds.length (ds.flatMap Diff.cells)
 o7:wr.ownsRow (w.heap.size+1) 3 1 v7 xs.length (xs.map (Value.int .i64))
 o8:wr.ownsRow (w.heap.size+1) 3 1 v8 ys.length (ys.map (Value.int .i64))
 a67:Apart v6 v7
 a68:Apart v6 v8
 a78:Apart v7 v8
 hi:w.heap.size+1≤wr.heap.size
 bl:Below w.heap.size w wr
section
variable {w wr w':World} {fv:Array Value} {v6 v7 v8:Value} {ds:List Diff} {xs ys:List Int}
theorem CR.keep (h:CR w wr fv v6 v7 v8 ds xs ys) (hb:Below wr.heap.size wr w'):CR w w' fv v6 v7 v8 ds xs ys :=
 ⟨h.b0.keep hb,owns_keep h.o6 hb,owns_keep h.o7 hb,owns_keep h.o8 hb,h.a67,h.a68,h.a78,Nat.le_trans h.hi hb.size,h.bl.trans (hb.mono h.bl.size)⟩
end
end Go.Proofs.Yticieifacalocaa
namespace Go.Proofs.Yticieifacalocaa
open Go.RowKit
end Go.Proofs.Yticieifacalocaa
namespace Go.Proofs.Yticieifacalocaa
open Go.RowKit
end Go.Proofs.Yticieifacalocaa
namespace Go.Proofs.Yticieifacalocaa
open Go.RowKit
end Go.Proofs.Yticieifacalocaa
namespace Go.Proofs.Yticieifacalocaa
open Go.RowKit
def OwnStps (w:World) (base:Nat) (P:Nat→Prop) (v:Value) (ps:List (Stp × Value)):Prop :=
 w.ownsRow base 91 6 v ps.length (ps.flatMap Stp.cells)∧∀q∈ps,IntsO w (fun b=>P b∧some b≠v.ownBlock) q.2 q.1.lits∧q.1.ok
section
variable {w w':World} {base:Nat} {P Q:Nat→Prop} {v:Value} {ps:List (Stp × Value)}
theorem OwnStps.nil (w:World) (base:Nat) (P:Nat→Prop):OwnStps w base P (.slice none 0 0) []:=⟨World.ownsRow_nil _ _ _ _,by simp⟩
theorem OwnStps.keep (h:OwnStps w base P v ps) (hb:Below w.heap.size w w'):OwnStps w' base P v ps:=⟨owns_keep h.1 hb,fun q hq=>⟨(h.2 q hq).1.keep hb,(h.2 q hq).2⟩⟩
theorem OwnStps.mono (h:OwnStps w base P v ps) (hP:∀b,b<w.heap.size→P b→Q b):OwnStps w base Q v ps:=⟨h.1,fun q hq=>⟨(h.2 q hq).1.mono fun b hb hp=>⟨hP b hb hp.1,hp.2⟩,(h.2 q hq).2⟩⟩
theorem OwnStps.grown {row:Option Nat} (h:OwnStps w base P v ps) (hg:w.grownBy w' row) (hv:v.ownBlock=none∨v.ownBlock≠row) (hne:∀b,P b→some b≠row):OwnStps w' base P v ps :=
 ⟨h.1.kept hg hv,fun q hq=>⟨(h.2 q hq).1.grown hg fun b hb=>hne b hb.1,(h.2 q hq).2⟩⟩
theorem OwnStps.push {v':Value} {o:Obj} {s:Stp} {lv:Value} (h:OwnStps w base P v ps) (hu:IntsO w (fun b=>P b∧some b≠v.ownBlock) lv s.lits) (hs:s.ok)
  (ho:w'.ownsRow base 91 6 v' (ps.length+1) (ps.flatMap Stp.cells++Stp.cells (s,lv))) (hg:(w.alloc o).grownBy w' v.ownBlock) (hat:v'.ownBlock=v.ownBlock∨v'.ownBlock=some (w.alloc o).heap.size):OwnStps w' base P v' (ps++[(s,lv)]):=by
 have key:∀{u xs},IntsO w (fun b=>P b∧some b≠v.ownBlock) u xs→IntsO w' (fun b=>P b∧some b≠v'.ownBlock) u xs:=by
  intro u xs h
  refine IntsO.mono (P:=fun b=>(P b∧some b≠v.ownBlock)∧b<w.heap.size) ?_ fun b _ hb=>⟨hb.1.1,?_⟩
  ·have h1:IntsO w (fun b=>(P b∧some b≠v.ownBlock)∧b<w.heap.size) u xs:=h.mono fun b h1 h2=>⟨h2,h1⟩
   exact (h1.grown (grown_alloc w o) (fun b _=>by simp)).grown hg fun b hb=>hb.1.2
  ·rcases hat with e|e<;>rw [e]
   ·exact hb.1.2
   ·simp;have:=hb.2;omega
 refine ⟨by simpa using ho,fun q hq => ?_⟩
 rcases List.mem_append.1 hq with hq|hq
 ·exact ⟨key (h.2 q hq).1,(h.2 q hq).2⟩
 ·rw [List.mem_singleton] at hq;subst hq;exact ⟨key hu,hs⟩
end
end Go.Proofs.Yticieifacalocaa
namespace Go.Proofs.Yticieifacalocaa
open Go.RowKit
end Go.Proofs.Yticieifacalocaa
namespace Go.Proofs.Yticieifacalocaa
open Go.RowKit
structure RF (w0 wr:World) (g gv:Nat) (f:Form) (fa fc sv cv:Value) (val:List Int) (ps:List (Stp × Value)) (us:List Value) (cs:List (List Int)):Prop where
 b:Blk wr g 72 #[.int .i64 f.ints, .int .i64 f.bools,fa,fc, .slice (some ⟨gv,0,none⟩) val.length val.length,sv,cv, .slice none 0 0, .slice none 0 0]
 bv:Blk wr gv 3 (rowI val)
 os:OwnStps wr (g+1) (fun b=>g+1≤b∧some b≠cv.ownBlock) sv ps
 om:OwnMat wr (g+1) (fun b=>g+1≤b∧some b≠sv.ownBlock) cv us cs
 ap:Apart sv cv
 lo:w0.heap.size≤gv
 lt:gv<g
 hi:g+1≤wr.heap.size
 bl:Below w0.heap.size w0 wr
section
variable {w0 wr w':World} {g gv:Nat} {f:Form} {fa fc sv cv:Value} {val:List Int} {ps:List (Stp × Value)} {us:List Value} {cs:List (List Int)}
theorem RF.keep (h:RF w0 wr g gv f fa fc sv cv val ps us cs) (hb:Below wr.heap.size wr w'):RF w0 w' g gv f fa fc sv cv val ps us cs :=
 ⟨h.b.keep hb,h.bv.keep hb,h.os.keep hb,h.om.keep hb,h.ap,h.lo,h.lt,Nat.le_trans h.hi hb.size,h.bl.trans (hb.mono h.bl.size)⟩
def OffRows (g:Nat) (sv cv:Value) (b:Nat):Prop:=g+1≤b∧some b≠sv.ownBlock∧some b≠cv.ownBlock
theorem RF.steps {sv' lv:Value} {s:Stp} {o:Obj} (h:RF w0 wr g gv f fa fc sv cv val ps us cs) (hu:IntsO wr (OffRows g sv cv) lv s.lits) (hs:s.ok)
  (ho:w'.ownsRow (g+1) 91 6 sv' (ps.length+1) (ps.flatMap Stp.cells++Stp.cells (s,lv))) (hg:(wr.alloc o).grownBy w' sv.ownBlock) (hat:sv'.ownBlock=sv.ownBlock∨sv'.ownBlock=some (wr.alloc o).heap.size) :
  RF w0 (w'.setCell ⟨g,5,none⟩ sv') g gv f fa fc sv' cv val (ps++[(s,lv)]) us cs∧Blk w' g 72 #[.int .i64 f.ints, .int .i64 f.bools,fa,fc, .slice (some ⟨gv,0,none⟩) val.length val.length,sv,cv, .slice none 0 0, .slice none 0 0] ∧
  ∀u xs,IntsO wr (OffRows g sv cv) u xs→IntsO (w'.setCell ⟨g,5,none⟩ sv') (OffRows g sv' cv) u xs:=by
 have hlt:∀k,sv.ownBlock=some k→g+1≤k∧k<wr.heap.size:=fun k e=>h.os.1.lt k e
 have hltc:∀k,cv.ownBlock=some k→g+1≤k∧k<wr.heap.size:=fun k e=>h.om.1.lt k e
 have glt:=h.lt
 have hb2:Blk w' g 72 #[.int .i64 f.ints, .int .i64 f.bools,fa,fc, .slice (some ⟨gv,0,none⟩) val.length val.length,sv,cv, .slice none 0 0, .slice none 0 0] :=
  (h.b.alloc o).grown hg fun e=>by have:=hlt _ e.symm;omega
 have hset:w'.grownBy (w'.setCell ⟨g,5,none⟩ sv') (some g):=grownBy_set0 _ _ _ _
 have hos:=h.os.push (s:=s) (lv:=lv) (hu.mono fun b _ hb=>⟨⟨hb.1,hb.2.2⟩,hb.2.1⟩) hs ho hg hat
 have hom:OwnMat w' (g+1) (fun b=>g+1≤b∧some b≠sv'.ownBlock) cv us cs:=by
  have h1:OwnMat wr (g+1) (fun b=>(g+1≤b∧some b≠sv.ownBlock)∧b<wr.heap.size) cv us cs:=h.om.mono fun b hb hp=>⟨hp,hb⟩
  refine ((h1.grown (grown_alloc wr o) (own_none _) fun b _=>by simp).grown hg h.ap.symm.ne fun b hb=>hb.1.2).mono fun b _ hb=>⟨hb.1.1,?_⟩
  rcases hat with e|e<;>rw [e]
  ·exact hb.1.2
  ·simp;have:=hb.2;omega
 have hkey:∀u xs,IntsO wr (OffRows g sv cv) u xs→IntsO (w'.setCell ⟨g,5,none⟩ sv') (OffRows g sv' cv) u xs:=by
  intro u xs hx
  have h1:IntsO wr (fun b=>OffRows g sv cv b∧b<wr.heap.size) u xs:=hx.mono fun b hb hp=>⟨hp,hb⟩
  refine (((h1.grown (grown_alloc wr o) fun b _=>by simp).grown hg fun b hb=>hb.1.2.1).grown hset fun b hb=>by simp;have:=hb.1.1;omega).mono fun b _ hb=>⟨hb.1.1,?_,hb.1.2.2⟩
  rcases hat with e|e<;>rw [e]
  ·exact hb.1.2.1
  ·simp;have:=hb.2;omega
 refine ⟨⟨hb2.set_ 5 sv',((h.bv.alloc o).grown hg fun e=>by have:=hlt _ e.symm;omega).grown hset (by simp;omega),hos.grown hset (own_ne hos.1 (by omega)) fun b hb=>by simp;omega,hom.grown hset (own_ne hom.1 (by omega)) fun b hb=>by simp;omega,?_,h.lo,h.lt,?_,?_⟩,hb2,hkey⟩
 ·exact (h.ap.symm.append (fun k e=>by have:=hltc k e;simp;omega) hat).symm
 ·have h1:=hg.size;have h2:=h.hi;simp at h1 ⊢;omega
 ·have hl:=h.lo
  exact ((h.bl.alloc h.bl.size o).grown hg (by have:=h.bl.size;simp;omega) fun k e=>by have:=hlt k e;omega).grown hset (by have h1:=hg.size;have h2:=h.bl.size;simp at h1;omega) fun k e=>by injection e with e;omega
theorem RF.clauses {cv' u:Value} {c:List Int} {o:Obj} (h:RF w0 wr g gv f fa fc sv cv val ps us cs) (hu:IntsO wr (OffRows g sv cv) u c)
  (ho:w'.ownsRow (g+1) 33 1 cv' (us.length+1) (us++[u])) (hg:(wr.alloc o).grownBy w' cv.ownBlock) (hat:cv'.ownBlock=cv.ownBlock∨cv'.ownBlock=some (wr.alloc o).heap.size) :
  RF w0 (w'.setCell ⟨g,6,none⟩ cv') g gv f fa fc sv cv' val ps (us++[u]) (cs++[c])∧Blk w' g 72 #[.int .i64 f.ints, .int .i64 f.bools,fa,fc, .slice (some ⟨gv,0,none⟩) val.length val.length,sv,cv, .slice none 0 0, .slice none 0 0]:=by
 have hlt:∀k,cv.ownBlock=some k→g+1≤k∧k<wr.heap.size:=fun k e=>h.om.1.lt k e
 have hlts:∀k,sv.ownBlock=some k→g+1≤k∧k<wr.heap.size:=fun k e=>h.os.1.lt k e
 have glt:=h.lt
 have hb2:Blk w' g 72 #[.int .i64 f.ints, .int .i64 f.bools,fa,fc, .slice (some ⟨gv,0,none⟩) val.length val.length,sv,cv, .slice none 0 0, .slice none 0 0] :=
  (h.b.alloc o).grown hg fun e=>by have:=hlt _ e.symm;omega
 have hset:w'.grownBy (w'.setCell ⟨g,6,none⟩ cv') (some g):=grownBy_set0 _ _ _ _
 have hom:=h.om.push (xs:=c) (hu.mono fun b _ hb=>⟨⟨hb.1,hb.2.1⟩,hb.2.2⟩) ho hg hat
 have hos:OwnStps w' (g+1) (fun b=>g+1≤b∧some b≠cv'.ownBlock) sv ps:=by
  have h1:OwnStps wr (g+1) (fun b=>(g+1≤b∧some b≠cv.ownBlock)∧b<wr.heap.size) sv ps:=h.os.mono fun b hb hp=>⟨hp,hb⟩
  refine ((h1.grown (grown_alloc wr o) (own_none _) fun b _=>by simp).grown hg h.ap.ne fun b hb=>hb.1.2).mono fun b _ hb=>⟨hb.1.1,?_⟩
  rcases hat with e|e<;>rw [e]
  ·exact hb.1.2
  ·simp;have:=hb.2;omega
 refine ⟨⟨hb2.set_ 6 cv',((h.bv.alloc o).grown hg fun e=>by have:=hlt _ e.symm;omega).grown hset (by simp;omega),hos.grown hset (own_ne hos.1 (by omega)) fun b hb=>by simp;omega,hom.grown hset (own_ne hom.1 (by omega)) fun b hb=>by simp;omega,?_,h.lo,h.lt,?_,?_⟩,hb2⟩
 ·exact h.ap.append (fun k e=>by have:=hlts k e;simp;omega) hat
 ·have h1:=hg.size;have h2:=h.hi;simp at h1 ⊢;omega
 ·have hl:=h.lo
  exact ((h.bl.alloc h.bl.size o).grown hg (by have:=h.bl.size;simp;omega) fun k e=>by have:=hlt k e;omega).grown hset (by have h1:=hg.size;have h2:=h.bl.size;simp at h1;omega) fun k e=>by injection e with e;omega
end
open Go.RowKit
def falseB (val:List Int) (x:Int):Bool:=val.getD (x.natAbs-1) 0 == -x
end Go.Proofs.Yticieifacalocaa
namespace Go.Proofs.Yticieifacalocaa
def OkV (f:Form) (val:List Int):Prop:=(val.length:Int)=f.bools∧∀(i:Nat) (x:Int),val[i]? = some x→x=0∨x=(i:Int)+1∨x = -((i:Int)+1)
structure SmallQ (f:Form):Prop where
 i0:2≤f.ints
 i1:f.ints≤6
 al:(f.atoms.length:Int)≤f.bools
 bl:f.bools≤18
 cl:f.clauses.length≤40
 at_:∀d∈f.atoms,okAtom f.ints d=true ∧ -4≤d.c∧d.c≤2
 cs:∀xs∈f.clauses,xs.length≤4∧∀x∈xs,okLit f.bools x=true
theorem SmallF.q {a b c:Int} {f:Form} (h:SmallF a b c f):SmallQ f:=by
 obtain ⟨h1,h2,h3,h4,h5,h6⟩:=h
 exact ⟨by omega,by omega,by omega,by omega,h4,h5,fun xs hx=>(h6 xs hx).2⟩
def asgK (val:List Int) (k:Nat):List Int:=(val.take k).filter fun x=>x != 0
def asg (f:Form) (val:List Int):List Int:=asgK val f.atoms.length
def Asm (val:List Int) (x:Int):Prop:=x≠0∧val[x.natAbs-1]? = some x
theorem Asm.false {val:List Int} {x:Int} (h:Asm val x):falseB val (-x)=true:=by
 unfold falseB
 rw [show (-x).natAbs-1=x.natAbs-1 by omega,List.getD_eq_getElem?_getD,h.2]
 simp
theorem Asm.no {val:List Int} {x:Int} (h:Asm val x) (h2:Asm val (-x)):False:=by
 have h3:=h2.2
 rw [show (-x).natAbs-1=x.natAbs-1 by omega,h.2] at h3
 injection h3 with h3
 exact h.1 (by omega)
theorem runS_append {f:Form} {a cs:List (List Int)} {l:List Stp} (h:runS f a l=(cs,true)) (r:List Stp):runS f a (l++r)=runS f cs r:=by
 induction l generalizing a with
 | nil=>rw [runS] at h;injection h with h _;rw [h];rfl
 | cons s l ih =>
  rw [runS] at h
  rw [List.cons_append,runS]
  cases e:deriv f s a with
  | none=>rw [e] at h;injection h with _ h;cases h
  | some c=>rw [e] at h;exact ih h
theorem runS_lenT {f:Form} {a cs:List (List Int)} {l:List Stp} (h:runS f a l=(cs,true)):cs.length=a.length+l.length:=by
 induction l generalizing a with
 | nil=>rw [runS] at h;injection h with h _;rw [h];simp
 | cons s l ih =>
  rw [runS] at h
  cases e:deriv f s a with
  | none=>rw [e] at h;injection h with _ h;cases h
  | some c=>rw [e] at h;have:=ih h;simp at this ⊢;omega
def Good (f:Form) (ps:List Stp) (cs:List (List Int)):Prop:=runS f [] ps=(cs,true)
theorem Good.nil (f:Form):Good f [] []:=rfl
theorem Good.snoc {f:Form} {ps:List Stp} {cs:List (List Int)} {s:Stp} {c:List Int} (h:Good f ps cs) (hd:deriv f s cs=some c):Good f (ps++[s]) (cs++[c]):=by
 unfold Good at h ⊢
 rw [runS_append h,runS,hd]
 rfl
theorem Good.len {f:Form} {ps:List Stp} {cs:List (List Int)} (h:Good f ps cs):cs.length=ps.length:=by
 have:=runS_lenT h;simpa using this
theorem OkV.set {f:Form} {val:List Int} {v:Nat} {a:Int} (h:OkV f val) (ha:a=0∨a=(v:Int)+1∨a = -((v:Int)+1)):OkV f (val.set v a):=by
 refine ⟨by simpa using h.1,fun i x hx => ?_⟩
 rw [List.getElem?_set] at hx
 split at hx
 ·rename_i e
  split at hx
  ·injection hx with hx;subst hx e;exact ha
  ·cases hx
 ·exact h.2 i x hx
def Fits (atoms:List Diff) (bs:List Bool) (xs:List Int):Prop:=∀(i:Nat) (d:Diff),atoms[i]? = some d→bs[i]? = some (decide (gi xs d.x-gi xs d.y≤d.c))
theorem holds_bound {atoms:List Diff} {bs:List Bool} {xs:List Int} (hf:Fits atoms bs xs) {lit:Int} {d:Diff} (hb:bound atoms lit=some d):(holds bs lit=true∧gi xs d.x-gi xs d.y≤d.c)∨holds bs (-lit)=true:=by
 rcases lit_cases lit with rfl|⟨n,rfl⟩|⟨n,rfl⟩
 ·rw [bound_zero] at hb;cases hb
 ·rw [bound_pos] at hb
  have h1:=hf n d hb
  by_cases h:gi xs d.x-gi xs d.y≤d.c
  ·refine .inl ⟨?_,h⟩
   rw [holds_pos,List.getD_eq_getElem?_getD,h1];simp [h]
  ·refine .inr ?_
   rw [holds_neg,h1];simp [h]
 ·rw [bound_neg] at hb
  obtain ⟨a,ha,rfl⟩:=Option.map_eq_some_iff.1 hb
  have h1:=hf n a ha
  by_cases h:gi xs a.x-gi xs a.y≤a.c
  ·refine .inr ?_
   rw [show -(-((n:Int)+1))=(n:Int)+1 by omega,holds_pos,List.getD_eq_getElem?_getD,h1];simp [h]
  ·refine .inl ⟨?_,?_⟩
   ·rw [holds_neg,h1];simp [h]
   ·simp only [Diff.opp];omega
theorem chain_sum (X:Int→Int) (ds:List Diff) (d0:Diff) (h:∀(i:Nat) (a b:Diff),(d0::ds)[i]? = some a→(d0::ds)[i+1]? = some b→a.y=b.x) :
  ((d0::ds).map fun d=>X d.x-X d.y).sum=X d0.x-X ((d0::ds).getLast (by simp)).y:=by
 induction ds generalizing d0 with
 | nil=>simp
 | cons d1 r ih =>
  have h01:=h 0 d0 d1 rfl rfl
  have:=ih d1 fun i a b h1 h2=>h (i+1) a b h1 h2
  rw [List.map_cons,List.sum_cons,this,List.getLast_cons (List.cons_ne_nil d1 r),h01]
  omega
theorem cyc_sum (X:Int→Int) {ds:List Diff} (h:Linked ds ds.length):(ds.map fun d=>X d.x-X d.y).sum=0:=by
 cases ds with
 | nil=>rfl
 | cons d0 r =>
  rw [chain_sum X r d0 fun i a b h1 h2 => ?_]
  ·have hlast:(d0::r)[r.length]? = some ((d0::r).getLast (by simp)):=by
    rw [List.getLast_eq_getElem];simp
   have:=h r.length _ d0 (by simp) hlast (by simp)
   rw [this];omega
  ·have hi:=(List.getElem?_eq_some_iff.1 h2).1
   refine h i a b (by omega) h1 ?_
   rw [Nat.mod_eq_of_lt hi];exact h2
theorem sum_le_map {α:Type} (p q:α→Int) (l:List α) (h:∀d∈l,p d≤q d):(l.map p).sum≤(l.map q).sum:=by
 induction l with
 | nil=>simp
 | cons d r ih =>
  have h1:=h d (by simp)
  have h2:=ih fun d hd=>h d (by simp [hd])
  simp only [List.map_cons,List.sum_cons]
  omega
theorem cyc_no (X:Int→Int) {ds:List Diff} (h:Cyc ds):∃d∈ds,¬X d.x-X d.y≤d.c:=by
 apply Classical.byContradiction
 intro hn
 have h1:=cyc_sum X h.2.1
 have h2:=sum_le_map (fun d:Diff=>X d.x-X d.y) (fun d:Diff=>d.c) ds fun d hd=>Classical.byContradiction fun hc=>hn ⟨d,hd,hc⟩
 have h3:=h.2.2
 unfold csum at h3
 have e:(ds.map fun d:Diff=>d.c)=ds.map Diff.c:=rfl
 rw [e] at h2
 omega
theorem norm_any {xs c:List Int} (h:norm xs=some c) (p:Int→Bool):c.any p=xs.any p:=by
 have hs:=norm_spec xs
 rw [h] at hs
 rw [Bool.eq_iff_iff,List.any_eq_true,List.any_eq_true]
 exact ⟨fun ⟨x,h1,h2⟩=>⟨x,(hs.2.1 x).1 h1,h2⟩,fun ⟨x,h1,h2⟩=>⟨x,(hs.2.1 x).2 h1,h2⟩⟩
theorem bnds_mem {atoms:List Diff} {lits:List Int} {ds:List Diff} (h:bnds atoms lits=some ds) {d:Diff} (hd:d∈ds):∃x∈lits,bound atoms x=some d:=by
 have h1:=bnds_some.1 h
 have h2:some d∈ds.map some:=List.mem_map.2 ⟨d,hd,rfl⟩
 rw [←h1] at h2
 obtain ⟨x,h3,h4⟩:=List.mem_map.1 h2
 exact ⟨x,h3,h4⟩
theorem holds_one (bs:List Bool) (v:Int) (h:holds bs v=true):holds bs (-v)=false:=by
 rcases lit_cases v with rfl|⟨n,rfl⟩|⟨n,rfl⟩
 ·rfl
 ·rw [holds_pos,List.getD_eq_getElem?_getD] at h
  rw [holds_neg]
  cases e:bs[n]? with
  | none=>rfl
  | some b=>rw [e] at h;simp at h;simp [h]
 ·rw [holds_neg] at h
  rw [show -(-((n:Int)+1))=(n:Int)+1 by omega,holds_pos,List.getD_eq_getElem?_getD]
  cases e:bs[n]? with
  | none=>rw [e] at h;cases h
  | some b=>rw [e] at h;simp at h;simp [h]
theorem deriv_holds {f:Form} {bs:List Bool} {xs:List Int} (hf:Fits f.atoms bs xs) (hc:∀c∈f.clauses,c.any (holds bs)=true) {s:Stp} {cs:List (List Int)} (hcs:∀c∈cs,c.any (holds bs)=true) {c:List Int} (h:deriv f s cs=some c):c.any (holds bs)=true:=by
 unfold deriv at h
 split at h
 ·split at h
  ·obtain ⟨a,h1,h2⟩:=Option.bind_eq_some_iff.1 h
   rw [norm_any h2]
   exact hc a (List.mem_of_getElem? h1)
  ·cases h
 ·split at h
  ·unfold cyc at h
   split at h
   ·rename_i ds hds
    split at h
    ·rename_i hcy
     rw [norm_any h,List.any_eq_true]
     obtain ⟨d,hd,hno⟩:=cyc_no (gi xs) (show Cyc ds from by simpa [cycB] using hcy)
     obtain ⟨x,hx,hbx⟩:=bnds_mem hds hd
     rcases holds_bound hf hbx with ⟨_,h2⟩|h2
     ·exact absurd h2 hno
     ·exact ⟨-x,List.mem_map.2 ⟨x,hx,rfl⟩,h2⟩
    ·cases h
   ·cases h
  ·split at h
   ·split at h
    ·obtain ⟨a,h1,h2⟩:=Option.bind_eq_some_iff.1 h
     obtain ⟨b,h3,h4⟩:=Option.bind_eq_some_iff.1 h2
     unfold res at h4
     split at h4
     ·rw [norm_any h4]
      have ha:=hcs a (List.mem_of_getElem? h1)
      have hb:=hcs b (List.mem_of_getElem? h3)
      rw [List.any_eq_true] at ha hb ⊢
      obtain ⟨x,hx,hx2⟩:=ha
      obtain ⟨y,hy,hy2⟩:=hb
      by_cases e1:x=s.var+1
      ·by_cases e2:y = -(s.var+1)
       ·subst e1 e2
        have:=holds_one bs _ hx2
        rw [this] at hy2;cases hy2
       ·exact ⟨y,List.mem_append_right _ (List.mem_filter.2 ⟨hy,by simpa using e2⟩),hy2⟩
      ·exact ⟨x,List.mem_append_left _ (List.mem_filter.2 ⟨hx,by simpa using e1⟩),hx2⟩
     ·cases h4
    ·cases h
   ·cases h
theorem runS_holds {f:Form} {bs:List Bool} {xs:List Int} (hf:Fits f.atoms bs xs) (hc:∀c∈f.clauses,c.any (holds bs)=true) {a cs:List (List Int)} {l:List Stp} {b:Bool} (h:runS f a l=(cs,b)) (ha:∀c∈a,c.any (holds bs)=true):∀c∈cs,c.any (holds bs)=true:=by
 induction l generalizing a with
 | nil=>rw [runS] at h;injection h with h _;rw [←h];exact ha
 | cons s l ih =>
  rw [runS] at h
  cases e:deriv f s a with
  | none=>rw [e] at h;injection h with h _;rw [←h];exact ha
  | some c =>
   rw [e] at h
   refine ih h fun c' hc' => ?_
   rcases List.mem_append.1 hc' with hc'|hc'
   ·exact ha c' hc'
   ·simp at hc';subst hc';exact deriv_holds hf hc ha e
def s0:Stp:=⟨0,0,[],0,0,0⟩
def ndStep (l:List Stp) (nd:List Bool) (i:Nat):List Bool :=
 if nd.getD i false=true∧(l.getD i s0).kind=3 then (nd.set (l.getD i s0).p.toNat true).set (l.getD i s0).q.toNat true else nd
def ndFrom (l:List Stp):Nat→List Bool
 | 0=>(List.replicate l.length false).set (l.length-1) true
 | j+1=>ndStep l (ndFrom l j) (l.length-1-j)
def nd (l:List Stp):List Bool:=ndFrom l l.length
def Back (l:List Stp):Prop:=∀(i:Nat),i<l.length→(l.getD i s0).kind=3→0≤(l.getD i s0).p∧(l.getD i s0).p<i∧0≤(l.getD i s0).q∧(l.getD i s0).q<i
theorem runS_at {f:Form} {a cs:List (List Int)} {l:List Stp} (h:runS f a l=(cs,true)) {i:Nat} (hi:i<l.length):∃c,cs[a.length+i]? = some c∧deriv f (l.getD i s0) (cs.take (a.length+i))=some c:=by
 induction l generalizing a i with
 | nil=>simp at hi
 | cons s l ih =>
  rw [runS] at h
  cases e:deriv f s a with
  | none=>rw [e] at h;injection h with _ h;cases h
  | some c =>
   rw [e] at h
   cases i with
   | zero =>
    have hpre:∀{a cs:List (List Int)} {l:List Stp},runS f a l=(cs,true)→∃r,cs=a++r:=by
     intro a cs l
     induction l generalizing a with
     | nil=>intro h;rw [runS] at h;injection h with h _;exact ⟨[],by simp [h]⟩
     | cons s l ih =>
      intro h
      rw [runS] at h
      cases e:deriv f s a with
      | none=>rw [e] at h;injection h with _ h;cases h
      | some c =>
       rw [e] at h
       obtain ⟨r,hr⟩:=ih h
       exact ⟨c::r,by rw [hr];simp⟩
    obtain ⟨r,hr⟩:=hpre h
    refine ⟨c,?_,?_⟩
    ·rw [hr];simp
    ·rw [hr];simpa using e
   | succ i =>
    obtain ⟨c',h1,h2⟩:=ih h (i:=i) (by simpa using hi)
    refine ⟨c',?_,?_⟩
    ·rw [←h1];simp;congr 1;omega
    ·rw [List.getD_cons_succ,show a.length+(i+1)=(a++[c]).length+i by simp;omega];exact h2
theorem Good.at_ {f:Form} {l:List Stp} {cs:List (List Int)} (h:Good f l cs) {i:Nat} (hi:i<l.length):∃c,cs[i]? = some c∧deriv f (l.getD i s0) (cs.take i)=some c:=by
 have:=runS_at h hi
 simpa using this
theorem deriv_kind {f:Form} {s:Stp} {cs:List (List Int)} {c:List Int} (h:deriv f s cs=some c):(s.kind=1∨s.kind=2∨s.kind=3)∧(s.kind=3→0≤s.p∧s.p<cs.length∧0≤s.q∧s.q<cs.length)∧(s.kind=1→0≤s.index∧s.index<f.clauses.length):=by
 unfold deriv at h
 split at h
 ·rename_i k1
  refine ⟨.inl k1,fun k3=>by omega,fun _ => ?_⟩
  split at h
  ·rename_i h0
   obtain ⟨a,h1,_⟩:=Option.bind_eq_some_iff.1 h
   have:=(List.getElem?_eq_some_iff.1 h1).1
   omega
  ·cases h
 ·rename_i k1
  split at h
  ·rename_i k2
   exact ⟨.inr (.inl k2),fun k3=>by omega,fun e=>absurd e k1⟩
  ·split at h
   ·rename_i k3
    refine ⟨.inr (.inr k3),fun _ => ?_,fun e=>absurd e k1⟩
    split at h
    ·obtain ⟨a,h1,h2⟩:=Option.bind_eq_some_iff.1 h
     obtain ⟨b,h3,_⟩:=Option.bind_eq_some_iff.1 h2
     have:=(List.getElem?_eq_some_iff.1 h1).1
     have:=(List.getElem?_eq_some_iff.1 h3).1
     omega
    ·cases h
   ·cases h
theorem Good.back {f:Form} {l:List Stp} {cs:List (List Int)} (h:Good f l cs):Back l:=fun i hi hk=>by
 obtain ⟨c,h1,h2⟩:=h.at_ hi
 have h3:=(deriv_kind h2).2.1 hk
 have:(cs.take i).length≤i:=List.length_take_le _ _
 omega
end Go.Proofs.Yticieifacalocaa
namespace Go.Proofs.Yticieifacalocaa
open Go.RowKit
structure GS (w wr:World) (gx:Nat) (xs:List Int):Prop where
 x:Blk wr gx 3 (rowI xs)
 lx:w.heap.size≤gx
 bl:Below w.heap.size w wr
section
variable {w wr w':World} {gx:Nat} {xs:List Int}
theorem GS.keep (h:GS w wr gx xs) (hb:Below wr.heap.size wr w'):GS w w' gx xs:=⟨h.x.keep hb,h.lx,h.bl.trans (hb.mono h.bl.size)⟩
theorem GS.setX (h:GS w wr gx xs) (k:Nat) (a:Int):GS w (wr.setCell ⟨gx,k,none⟩ (.int .i64 a)) gx (xs.set k a) :=
 ⟨h.x.setI k a,h.lx,h.bl.grown (grownBy_set0 _ _ _ _) h.bl.size fun g e=>by have:=h.lx;injection e with e;omega⟩
theorem GS.drewN (h:GS w wr gx xs) (n:Nat):GS w (wr.drewN n) gx xs:=⟨h.x.drewN n,h.lx,bdrew h.bl n⟩
end
end Go.Proofs.Yticieifacalocaa
namespace Go.Proofs.Yticieifacalocaa
open Go.RowKit
def fitD (n:Nat) (d:Diff):Prop:=0≤d.x∧d.x<n∧0≤d.y∧d.y<n
set_option maxRecDepth 100000 in
theorem fitc_any (d:Diff) (n g:Nat) (W:World) (hd:fitD n d) (hb:Blk W g 3 #[.int .i64 (n:Int)]) :
  Calls Try.prog 96 #[.agg #[.int .i64 d.x, .int .i64 d.y, .int .i64 d.c], .pointer (some ⟨g,0,none⟩)] W fun e w'=>e = .returned (.bool false)∧Below W.heap.size W w':=by
 obtain ⟨d0,d1,d2,d3⟩:=hd
 have HB:=Lib.hid (((Below.refl W.heap.size W).alloc (Nat.le_refl _) (.cells #[.int .i64 d.x, .int .i64 d.y, .int .i64 d.c] 50)))
 have b0:=(Blk.new W 50 #[.int .i64 d.x, .int .i64 d.y, .int .i64 d.c]).cell 0
 have b1:=(Blk.new W 50 #[.int .i64 d.x, .int .i64 d.y, .int .i64 d.c]).cell 1
 have q0:=(hb.alloc (.cells #[.int .i64 d.x, .int .i64 d.y, .int .i64 d.c] 50)).cell 0
 simp only [List.getElem?_toArray,List.getElem?_cons_zero,List.getElem?_cons_succ] at b0 b1 q0
 have y1:decide (d.x<0)=false:=by simp;omega
 have y2:decide (d.x≥(n:Int))=false:=by simp;omega
 have y3:decide (d.y<0)=false:=by simp;omega
 have y4:decide (d.y≥(n:Int))=false:=by simp;omega
 clear hb
 go_enter Try.func96,Try.ntmps96
 go_upto_region 1 with fail
 generalize W.alloc (.cells #[.int .i64 d.x, .int .i64 d.y, .int .i64 d.c] 50)=W1 at *
 go_wp2_with fail
 go_ret
 exact ⟨rfl,HB.out⟩
set_option maxRecDepth 100000 in
theorem idxD_any (v:Value) (l:List Diff) (n g:Nat) (w:World) (hv:Diffs w v l) (hf:∀d∈l,fitD n d) (hb:Blk w g 3 #[.int .i64 (n:Int)]) :
  Calls Try.prog 111 #[v, .func (.func 96) #[] #[.pointer (some ⟨g,0,none⟩)]] w fun e w'=>e = .returned (.int .i64 (-1))∧Below w.heap.size w w':=by
 have HV:=Lib.hid hv
 have HF:=Lib.hid hf
 have HB:=Lib.hid hb
 obtain ⟨A,c,rfl,h1,h2,h3,hr⟩:=hv
 unfold maxLen at h2
 clear h3 hr hb hf
 go_enter Try.func111,Try.ntmps111
 go_wp2_with fail
 go_loopw [5,8] (fun _ i wr=>∃k:Nat,k≤l.length∧i = .int .i64 k∧Below w.heap.size w wr) (fun _ i _=>l.length-(intOf i).toNat)
 case atStart=>exact ⟨0,by omega,rfl,Below.refl _ _⟩
 case round =>
  obtain ⟨k,hk,rfl,hbw⟩:=hrel
  have HBW:=Lib.hid hbw
  clear hbw
  by_cases hlt:k<l.length
  ·obtain ⟨d,hd⟩:∃d,l[k]? = some d:=⟨_,List.getElem?_eq_getElem hlt⟩
   obtain ⟨A',c',hv', -, -, -,hrd⟩:=HV.out.keep HBW.out
   injection hv' with e1 e2 e3
   subst e1 e3
   obtain ⟨b1,o1,rfl,hb1,hx1,hy1,hz1⟩:=hrd.diff hd
   have HC:Hid (Calls Try.prog 96 #[.agg #[.int .i64 d.x, .int .i64 d.y, .int .i64 d.c], .pointer (some ⟨g,0,none⟩)] wr fun e w'=>e = .returned (.bool false)∧Below wr.heap.size wr w'):=Lib.hid (fitc_any d n g wr (HF.out d (List.mem_of_getElem? hd)) (HB.out.keep HBW.out))
   have y1:(k:Int)<(l.length:Int):=by omega
   clear hd hrd
   go_wp2_with fail
   refine HC.out.mono ?_
   rintro e w' ⟨rfl,hb'⟩
   have HB2:=Lib.hid (HBW.out.trans (hb'.mono HBW.out.size))
   clear hb' HC
   go_wp2_with fail
   go_roundw
   case rel=>exact ⟨k+1,by omega,by go_num,HB2.out⟩
   case measure=>simp [intOf];omega
  ·go_wp2_with fail
   go_ret
   exact ⟨rfl,HBW.out⟩
set_option maxRecDepth 100000 in
theorem cntD_any (v:Value) (l:List Diff) (n g:Nat) (w:World) (hv:Diffs w v l) (hf:∀d∈l,fitD n d) (hb:Blk w g 3 #[.int .i64 (n:Int)]) :
  Calls Try.prog 95 #[v, .func (.func 96) #[] #[.pointer (some ⟨g,0,none⟩)]] w fun e w'=>e = .returned (.bool false)∧Below w.heap.size w w':=by
 have HI:=Lib.hid (idxD_any v l n g w hv hf hb)
 obtain ⟨A,c,rfl,h1,h2,h3,hr⟩:=hv
 clear h3 hr h2 hf hb
 go_enter Try.func95,Try.ntmps95
 go_wp2_with fail
 refine HI.out.mono ?_
 rintro e w' ⟨rfl,hb⟩
 have HB:=Lib.hid hb
 clear hb
 go_wp2_with fail
 go_ret
 exact ⟨rfl,HB.out⟩
set_option maxRecDepth 100000 in
theorem fits_any (v:Value) (l:List Diff) (n:Nat) (w:World) (hv:Diffs w v l) (hn:n≤32) (hf:∀d∈l,fitD n d) :
  Calls Try.prog 86 #[.int .i64 (n:Int),v] w fun e w'=>e = .returned (.bool true)∧Below w.heap.size w w':=by
 have HC:=Lib.hid (cntD_any v l n w.heap.size (w.alloc (.cells #[.int .i64 (n:Int)] 3)) (hv.keep ((Below.refl _ _).alloc (Nat.le_refl _) _)) hf (Blk.new w _ _))
 have HB:=Lib.hid (((Below.refl w.heap.size w).alloc (Nat.le_refl _) (.cells #[.int .i64 (n:Int)] 3)))
 have b0:=(Blk.new w 3 #[.int .i64 (n:Int)]).cell 0
 simp only [List.getElem?_toArray,List.getElem?_cons_zero] at b0
 obtain ⟨A,c,rfl,h1,h2,h3,hr⟩:=hv
 have y1:decide ((n:Int)<0)=false:=by simp
 have y2:decide ((n:Int) > 32)=false:=by simp;omega
 have y3:decide (32<n)=false:=by simp [hn]
 have hmf:∀(fn:Fn) (first cap:Array Value) (W:World),(Instr.makeFunc fn first cap).run Try.prog W = .ok (.func fn first cap) W:=fun _ _ _ _=>rfl
 clear h3 hr h2 hf
 go_enter Try.func86,Try.ntmps86
 go_upto_region 1 with fail
 generalize w.alloc (.cells #[.int .i64 (n:Int)] 3)=W1 at *
 go_wp2_with fail
 refine HC.out.mono ?_
 rintro e w' ⟨rfl,hb⟩
 have HB2:=Lib.hid (HB.out.trans (hb.mono HB.out.size))
 clear hb
 go_wp2_with fail
 go_ret
 exact ⟨rfl,HB2.out⟩
end Go.Proofs.Yticieifacalocaa
