/- StepApp Has OwnStps Tape Problem StpW Refut -/
import Derived.Test.YticieifacalocaaTSE8
import Derived.ChangeAlike
namespace Go.Proofs.Yticieifacalocaa
open Go.RowKit
theorem wL {P:Program} {ops:Array Oper} {o:Oper} {a:Act} {w:World} {K:Act→World→Prop} {Q:Exit→Act→World→Prop} {E:Prop} (hgd:o.guard=none) (s x:Operand) (t:TypeId)
  (ho:o.op = .call { callee := .builtin .append,args := #[s,x],argTypes := #[t,t] })
  (base:Nat) (e:TypeId) (i:TypeInfo) (z:Value) (size bytes:Nat) (ht:P.underlying t=some (.slice e)) (hi:P.info? e=some i) (hz:i.zero=some z)
  (hsize:i.size=size) (hby:i.bytes=bytes) (hzs:z.cells.size=size) (hsz:0<size)
  (v:Value) (n:Nat) (xs:List Value) (hs:a.eval s=v) (hown:w.ownsRow base e size v n xs)
  (ad:Addr) (m c:Nat) (news:List Value) (hx:a.eval x = .slice (some ad) m c) (hl:news.length=m * size) (hnews:∀j u,news[j]? = some u→w.cell? (ad.add j)=some u) (h1:∀u∈news,u.oneCell'=true)
  (h63:n+m≤maxLen) (hbytes:(n+m) * bytes≤140737488355328) (hbase:base≤w.heap.size)
  (h:∀v' w',w'.ownsRow base e size v' (n+m) (xs++news)→w.grownBy w' v.ownBlock→(v'.ownBlock=v.ownBlock∨v'.ownBlock=some w.heap.size)→K (a.put o.dst v') w') :
  if Region.wanted o (yielded ops a.tmps)=true then Oper.wp P o a w K Q else E:=by
 have hw:Region.wanted o (yielded ops a.tmps)=true:=by simp [Region.wanted,hgd]
 rw [if_pos hw]
 obtain ⟨v',w',hr,h2,h3,_,h5⟩:=run_append_own_at (P:=P) w base t o.type e i z size bytes ht hi hz hsize hby hzs hsz v n xs hown ad m c news hl hnews h1 h63 hbytes hbase
 unfold Oper.wp execOp
 simp only [ho,resolve,invoke,builtin,uE,uF,kS,vU,qD,kM,hs,hx,hr]
 exact h v' w' h2 h3 h5
set_option maxRecDepth 100000 in
theorem has_any (v:Value) (zs:List Int) (x:Int) (w:World) (hv:Ints w v zs) :
  Calls Try.prog 52 #[v, .int .i64 x] w fun e w'=>e = .returned (.bool (decide (x∈zs)))∧w=w':=by
 obtain ⟨A,c,rfl,h1,h2,h3,hr⟩:=hv
 unfold maxLen at h2
 have HR:=Lib.hid hr
 clear h3 hr
 go_enter Try.func52,Try.ntmps52
 go_wp2_with fail
 go_loop [9] (fun i=>∃k:Nat,k≤zs.length∧i = .int .i64 k∧x∉zs.take k) (fun i=>zs.length-(intOf i).toNat)
 case atStart=>exact ⟨0,by omega,rfl,by simp⟩
 case round =>
  obtain ⟨k,hk,rfl,hno⟩:=hrel
  have HNO:=Lib.hid hno
  clear hno
  by_cases hlt:k<zs.length
  ·obtain ⟨y,hy⟩:∃y,zs[k]? = some y:=⟨_,List.getElem?_eq_getElem hlt⟩
   obtain ⟨b,o,rfl,hb,hc⟩:=HR.out.int hy
   have HY:=Lib.hid hy
   clear hy
   by_cases e:y=x
   ·have de:(x == y)=true:=by simp [e]
    have HIN:Hid (x∈zs):=e ▸ List.mem_of_getElem? HY.out
    clear e
    go_wp2_with fail
    go_ret
    exact ⟨fH (by simp [HIN.out]),rfl⟩
   ·have de:(x == y)=false:=by simp;exact fun h=>e h.symm
    have HN:Hid (x∉zs.take (k+1)):=by
     refine Lib.hid ?_
     rw [wO HY.out]
     simp only [zI,zH,jB]
     exact ⟨HNO.out,fun h=>e h.symm⟩
    clear e
    go_wp2_with fail
    go_round
    case rel=>exact ⟨k+1,by omega,by go_num,HN.out⟩
    case measure=>simp [intOf];omega
  ·have HN:Hid (x∉zs):=by
    have h:=HNO.out
    rwa [zQ (by omega)] at h
   go_wp2_with fail
   go_ret
   exact ⟨fH (by simp [HN.out]),rfl⟩
def OwnStps (w:World) (base:Nat) (P:Nat→Prop) (v:Value) (ps:List (Stp × Value)):Prop :=
 w.ownsRow base 91 6 v ps.length (ps.flatMap Stp.cells)∧∀q∈ps,IntsO w (fun b=>P b∧some b≠v.ownBlock) q.2 q.1.lits∧q.1.ok
section
variable {w w':World} {base:Nat} {P Q:Nat→Prop} {v:Value} {ps:List (Stp × Value)}
theorem OwnStps.nil (w:World) (base:Nat) (P:Nat→Prop):OwnStps w base P (.slice none 0 0) []:=⟨zY _ _ _ _,by simp⟩
theorem OwnStps.stps (h:OwnStps w base P v ps):Stps w v (ps.map (·.1)):=by
 obtain ⟨A,c,h1,h2,h3,h4⟩:=wK h.1
 exact ⟨A,c,ps,rfl,h1,h2,h3,h4,fun q hq=>⟨(h.2 q hq).1.ints,(h.2 q hq).2⟩⟩
theorem OwnStps.keep (h:OwnStps w base P v ps) (hb:Below w.heap.size w w'):OwnStps w' base P v ps:=⟨dQ h.1 hb,fun q hq=>⟨(h.2 q hq).1.keep hb,(h.2 q hq).2⟩⟩
theorem OwnStps.mono (h:OwnStps w base P v ps) (hP:∀b,b<w.heap.size→P b→Q b):OwnStps w base Q v ps:=⟨h.1,fun q hq=>⟨(h.2 q hq).1.mono fun b hb hp=>⟨hP b hb hp.1,hp.2⟩,(h.2 q hq).2⟩⟩
theorem OwnStps.grown {row:Option Nat} (h:OwnStps w base P v ps) (hg:w.grownBy w' row) (hv:v.ownBlock=none∨v.ownBlock≠row) (hne:∀b,P b→some b≠row):OwnStps w' base P v ps :=
 ⟨h.1.kept hg hv,fun q hq=>⟨(h.2 q hq).1.grown hg fun b hb=>hne b hb.1,(h.2 q hq).2⟩⟩
theorem OwnStps.push {v':Value} {o:Obj} {s:Stp} {lv:Value} (h:OwnStps w base P v ps) (hu:IntsO w (fun b=>P b∧some b≠v.ownBlock) lv s.lits) (hs:s.ok)
  (ho:w'.ownsRow base 91 6 v' (ps.length+1) (ps.flatMap Stp.cells++Stp.cells (s,lv))) (hg:(w.alloc o).grownBy w' v.ownBlock) (hat:v'.ownBlock=v.ownBlock∨v'.ownBlock=some (w.alloc o).heap.size):OwnStps w' base P v' (ps++[(s,lv)]):=by
 have key:∀{u xs},IntsO w (fun b=>P b∧some b≠v.ownBlock) u xs→IntsO w' (fun b=>P b∧some b≠v'.ownBlock) u xs:=by
  intro u xs h
  refine IntsO.mono (P:=fun b=>(P b∧some b≠v.ownBlock)∧b<w.heap.size) ?_ fun b _ hb=>⟨hb.1.1,?_⟩
  ·have h1:IntsO w (fun b=>(P b∧some b≠v.ownBlock)∧b<w.heap.size) u xs:=h.mono fun b h1 h2=>⟨h2,h1⟩
   exact (h1.grown (gQ w o) (fun b _=>by simp)).grown hg fun b hb=>hb.1.2
  ·rcases hat with e|e<;>rw [e]
   ·exact hb.1.2
   ·simp;have:=hb.2;omega
 refine ⟨by simpa using ho,fun q hq => ?_⟩
 rcases zI.1 hq with hq|hq
 ·exact ⟨key (h.2 q hq).1,(h.2 q hq).2⟩
 ·rw [zH] at hq;subst hq;exact ⟨key hu,hs⟩
end
def Byts (w:World) (v:Value) (xs:List Int):Prop :=
 ∃A c,v = .slice A xs.length c∧xs.length≤c∧c≤maxLen∧(∀x∈xs,0≤x∧x≤255)∧Rd w A (xs.map (Value.int .u8))
theorem Byts.keep {w w':World} {v:Value} {xs:List Int} (h:Byts w v xs) (hb:Below w.heap.size w w'):Byts w' v xs:=by
 obtain ⟨A,c,hv,hl,hm,hx,hr⟩:=h
 exact ⟨A,c,hv,hl,hm,hx,hr.keep hb⟩
def mO (w:World) (v:Value) (a b c:Int) (L:List Int):Prop :=
 ∃lv,v = .agg #[.int .u8 a, .int .u8 b, .int .u8 c,lv]∧(0≤a∧a≤255)∧(0≤b∧b≤255)∧(0≤c∧c≤255)∧Byts w lv L
structure FS (w wr:World) (a b c:Int) (nv lv:Value) (ints bools:Int) (av cv:Value) (at_:Nat):Prop where
 p0:Blk wr w.heap.size 25 #[.int .u8 a, .int .u8 b, .int .u8 c,nv]
 p1:Blk wr (w.heap.size+1) 29 #[.int .i64 0, .int .i64 0, .slice none 0 0, .slice none 0 0]
 p2:Blk wr (w.heap.size+1+1) 29 #[.int .i64 ints, .int .i64 bools,av,cv]
 p3:Blk wr (w.heap.size+1+1+1) 101 #[lv, .int .i64 at_]
 bl:Below w.heap.size w wr
theorem FS.grown {w wr w':World} {a b c:Int} {nv lv av cv:Value} {ints bools:Int} {at_:Nat} {row:Option Nat} (h:FS w wr a b c nv lv ints bools av cv at_) (hg:wr.grownBy w' row) (hne:∀g,row=some g→w.heap.size+1+1+1<g) :
  FS w w' a b c nv lv ints bools av cv at_:=by
 have ne:∀k,k≤w.heap.size+1+1+1→some k≠row:=fun k hk e=>by have:=hne k e.symm;omega
 exact ⟨h.p0.grown hg (ne _ (by omega)),h.p1.grown hg (ne _ (by omega)),h.p2.grown hg (ne _ (by omega)),h.p3.grown hg (ne _ (by omega)),h.bl.grown hg h.bl.size fun g e=>by have:=hne g e;omega⟩
theorem FS.next {w wr w':World} {a b c:Int} {nv lv av cv:Value} {ints bools:Int} {at_ at':Nat} (h:FS w wr a b c nv lv ints bools av cv at_) (hg:wr.grownBy w' (some (w.heap.size+1+1+1))) (hB:Blk w' (w.heap.size+1+1+1) 101 #[lv, .int .i64 at']) :
  FS w w' a b c nv lv ints bools av cv at':=by
 have ne:∀k,k<w.heap.size+1+1+1→some k≠some (w.heap.size+1+1+1):=fun k hk e=>by injection e with e;omega
 exact ⟨h.p0.grown hg (ne _ (by omega)),h.p1.grown hg (ne _ (by omega)),h.p2.grown hg (ne _ (by omega)),hB,h.bl.grown hg h.bl.size fun g e=>by injection e with e;omega⟩
theorem yz (X ints x:Int) (h1:0≤X) (h2:X<ints) (h3:2≤ints) (h4:ints≤6) (hx:0≤x) :
  ∃Y Z:Int,x % (ints-1)=Y∧x.tmod (ints-1)=Y∧(X+1+Y) % ints=Z∧(X+1+Y).tmod ints=Z∧0≤Y∧Y<ints-1∧0≤Z∧Z<ints∧Z≠X:=by
 have hy0:0≤x % (ints-1):=vG _ (by omega)
 have hy1:x % (ints-1)<ints-1:=kL _ (by omega)
 refine ⟨x % (ints-1),(X+1+x % (ints-1)) % ints,rfl,qR hx,rfl,qR (by omega),hy0,hy1,vG _ (by omega),kL _ (by omega),?_⟩
 generalize x % (ints-1)=Y at *
 have:ints=2∨ints=3∨ints=4∨ints=5∨ints=6:=by omega
 rcases this with rfl|rfl|rfl|rfl|rfl<;>omega
theorem setS {w:World} {g f:Nat} {X C ints:Int} (h:Blk w g 50 #[.int .i64 X, .int .i64 0, .int .i64 C]) (hf:w.cell? ⟨f,0,none⟩=some (.int .i64 ints)) (hne:f≠g) (Z:Int) :
  (w.setCell ⟨g,1,none⟩ (.int .i64 Z)).cell? ⟨g,0,none⟩=some (.int .i64 X)∧(w.setCell ⟨g,1,none⟩ (.int .i64 Z)).cell? ⟨f,0,none⟩=some (.int .i64 ints) :=
 ⟨(h.set_ 1 (.int .i64 Z)).cell 0,(yR (a:=⟨f,0,none⟩) (kJ w ⟨g,1,none⟩ _ f hne)).trans hf⟩
def SmallF (a b c:Int) (f:Form):Prop :=
 f.ints=2+a % 5∧(f.atoms.length:Int)=1+b % 12∧f.bools=f.atoms.length+c % 7∧f.clauses.length≤40∧(∀d∈f.atoms,dY f.ints d=true ∧ -4≤d.c∧d.c≤2) ∧
  ∀xs∈f.clauses,1≤xs.length∧xs.length≤4∧∀x∈xs,bR f.bools x=true
theorem SmallF.valid {a b c:Int} {f:Form} (h:SmallF a b c f):validF f=0:=by
 obtain ⟨h1,h2,h3,h4,h5,h6⟩:=h
 rw [lI (by omega) (by omega) (by omega) (by omega) (by omega) (by omega),mN]
 ·rfl
 ·rw [qM];exact fun d hd=>(h5 d hd).1
 ·rw [qM];intro xs hx;rw [qM];exact (h6 xs hx).2.2
structure F2 (w wr:World) (a b c:Int) (nv lv:Value) (ints bools:Int) (av cv:Value) (at_:Nat) (ds:List Diff) (B:Nat):Prop where
 fs:FS w wr a b c nv lv ints bools av cv at_
 ow:wr.ownsRow (w.heap.size+4) 50 3 av ds.length (ds.flatMap Diff.cells)
 av_:∀g,av.ownBlock=some g→g<B
 lo:w.heap.size+4≤B
 hi:B≤wr.heap.size
section
variable {w wr w':World} {a b c:Int} {nv lv:Value} {ints bools:Int} {av cv:Value} {at_:Nat} {ds:List Diff} {B:Nat}
theorem F2.grown {row:Option Nat} (h:F2 w wr a b c nv lv ints bools av cv at_ ds B) (hg:wr.grownBy w' row) (hne:∀g,row=some g→B≤g):F2 w w' a b c nv lv ints bools av cv at_ ds B:=by
 have lo:=h.lo
 refine ⟨h.fs.grown hg fun g e=>by have:=hne g e;omega,h.ow.kept hg ?_,h.av_,h.lo,zZ h.hi hg.size⟩
 cases e:av.ownBlock with
 | none=>exact .inl rfl
 | some g=>right;intro e';have h1:=h.av_ g e;have:=hne g e'.symm;omega
theorem F2.next {at':Nat} (h:F2 w wr a b c nv lv ints bools av cv at_ ds B) (hg:wr.grownBy w' (some (w.heap.size+1+1+1))) (hB:Blk w' (w.heap.size+1+1+1) 101 #[lv, .int .i64 at']):F2 w w' a b c nv lv ints bools av cv at' ds B:=by
 refine ⟨h.fs.next hg hB,h.ow.kept hg ?_,h.av_,h.lo,zZ h.hi hg.size⟩
 cases e:av.ownBlock with
 | none=>exact .inl rfl
 | some g=>right;have:=h.ow.lt g e;simp;omega
theorem F2.setC (h:F2 w wr a b c nv lv ints bools av cv at_ ds B) (cv':Value):F2 w (wr.setCell ⟨w.heap.size+1+1,3,none⟩ cv') a b c nv lv ints bools av cv' at_ ds B:=by
 have hg:=wJ wr (w.heap.size+1+1) 3 cv'
 have ne:∀k,k≠w.heap.size+1+1→some k≠some (w.heap.size+1+1):=fun k hk e=>by injection e with e;omega
 refine ⟨⟨h.fs.p0.grown hg (ne _ (by omega)),h.fs.p1.grown hg (ne _ (by omega)),h.fs.p2.set_ 3 cv',h.fs.p3.grown hg (ne _ (by omega)),h.fs.bl.grown hg h.fs.bl.size fun g e=>by injection e with e;omega⟩,h.ow.kept hg ?_,h.av_,h.lo,zZ h.hi hg.size⟩
 cases e:av.ownBlock with
 | none=>exact .inl rfl
 | some g=>right;have:=h.ow.lt g e;simp;omega
end
theorem FS.setA {w wr:World} {a b c:Int} {nv lv av cv:Value} {ints bools:Int} {at_:Nat} (h:FS w wr a b c nv lv ints bools av cv at_) (av':Value) :
  FS w (wr.setCell ⟨w.heap.size+1+1,2,none⟩ av') a b c nv lv ints bools av' cv at_:=by
 have hg:=wJ wr (w.heap.size+1+1) 2 av'
 have ne:∀k,k≠w.heap.size+1+1→some k≠some (w.heap.size+1+1):=fun k hk e=>by injection e with e;omega
 exact ⟨h.p0.grown hg (ne _ (by omega)),h.p1.grown hg (ne _ (by omega)),h.p2.set_ 2 av',h.p3.grown hg (ne _ (by omega)),h.bl.grown hg h.bl.size fun g e=>by injection e with e;omega⟩
theorem FS.setB {w wr:World} {a b c:Int} {nv lv av cv:Value} {ints bools:Int} {at_:Nat} (h:FS w wr a b c nv lv ints bools av cv at_) (bl:Int) :
  FS w (wr.setCell ⟨w.heap.size+1+1,1,none⟩ (.int .i64 bl)) a b c nv lv ints bl av cv at_:=by
 have hg:=wJ wr (w.heap.size+1+1) 1 (.int .i64 bl)
 have ne:∀k,k≠w.heap.size+1+1→some k≠some (w.heap.size+1+1):=fun k hk e=>by injection e with e;omega
 exact ⟨h.p0.grown hg (ne _ (by omega)),h.p1.grown hg (ne _ (by omega)),h.p2.set_ 1 _,h.p3.grown hg (ne _ (by omega)),h.bl.grown hg h.bl.size fun g e=>by injection e with e;omega⟩
def room (g:Nat) (wr:World):Nat:=match wr.cell? ⟨g,3,none⟩ with
 | some (.slice _ n _)=>40-n
 | _=>0
def okCl (bools:Int) (xs:List Int):Prop:=1≤xs.length∧xs.length≤4∧∀x∈xs,bR bools x=true
theorem aO (w:World) (g:Nat) (n:Nat) (u0 u1 u2 u3:Value):w.grownBy (((((w.drewN n).setCell ⟨g,0,none⟩ u0).setCell ⟨g,1,none⟩ u1).setCell ⟨g,2,none⟩ u2).setCell ⟨g,3,none⟩ u3) (some g):=by
 have h0:w.grownBy (w.drewN n) (some g):=⟨rfl,rfl,rfl,Nat.le_refl _,fun _ _ _=>rfl⟩
 exact gK (gK (gK (gK h0 (wJ _ g 0 u0)) (wJ _ g 1 u1)) (wJ _ g 2 u2)) (wJ _ g 3 u3)
theorem info_step:(Try.prog.info? 91).map (fun i=>(i.zero,i.size,i.bytes))=some (some (.agg #[.int .i64 0, .int .i64 0, .slice none 0 0, .int .i64 0, .int .i64 0, .int .i64 0]),6,64):=by kernel_rfl
def zT:Value := .agg #[.int .i64 0, .int .i64 0, .slice none 0 0, .int .i64 0, .int .i64 0, .int .i64 0]
structure RF (w0 wr:World) (g gv:Nat) (f:Form) (fa fc sv cv:Value) (val:List Int) (ps:List (Stp × Value)) (us:List Value) (cs:List (List Int)):Prop where
 b:Blk wr g 72 #[.int .i64 f.ints, .int .i64 f.bools,fa,fc, .slice (some ⟨gv,0,none⟩) val.length val.length,sv,cv, .slice none 0 0, .slice none 0 0]
 bv:Blk wr gv 3 (dH val)
 os:OwnStps wr (g+1) (fun b=>g+1≤b∧some b≠cv.ownBlock) sv ps
 om:OwnMat wr (g+1) (fun b=>g+1≤b∧some b≠sv.ownBlock) cv us cs
 ap:Apart sv cv
 lo:w0.heap.size≤gv
 lt:gv<g
 hi:g+1≤wr.heap.size
 bl:Below w0.heap.size w0 wr
section
variable {w0 wr w':World} {g gv:Nat} {f:Form} {fa fc sv cv:Value} {val:List Int} {ps:List (Stp × Value)} {us:List Value} {cs:List (List Int)}
theorem RF.keep (h:RF w0 wr g gv f fa fc sv cv val ps us cs) (hb:Below wr.heap.size wr w'):RF w0 w' g gv f fa fc sv cv val ps us cs :=
 ⟨h.b.keep hb,h.bv.keep hb,h.os.keep hb,h.om.keep hb,h.ap,h.lo,h.lt,zZ h.hi hb.size,h.bl.trans (hb.mono h.bl.size)⟩
def dC (g:Nat) (sv cv:Value) (b:Nat):Prop:=g+1≤b∧some b≠sv.ownBlock∧some b≠cv.ownBlock
theorem RF.steps {sv' lv:Value} {s:Stp} {o:Obj} (h:RF w0 wr g gv f fa fc sv cv val ps us cs) (hu:IntsO wr (dC g sv cv) lv s.lits) (hs:s.ok)
  (ho:w'.ownsRow (g+1) 91 6 sv' (ps.length+1) (ps.flatMap Stp.cells++Stp.cells (s,lv))) (hg:(wr.alloc o).grownBy w' sv.ownBlock) (hat:sv'.ownBlock=sv.ownBlock∨sv'.ownBlock=some (wr.alloc o).heap.size) :
  RF w0 (w'.setCell ⟨g,5,none⟩ sv') g gv f fa fc sv' cv val (ps++[(s,lv)]) us cs∧Blk w' g 72 #[.int .i64 f.ints, .int .i64 f.bools,fa,fc, .slice (some ⟨gv,0,none⟩) val.length val.length,sv,cv, .slice none 0 0, .slice none 0 0] ∧
  ∀u xs,IntsO wr (dC g sv cv) u xs→IntsO (w'.setCell ⟨g,5,none⟩ sv') (dC g sv' cv) u xs:=by
 have hlt:∀k,sv.ownBlock=some k→g+1≤k∧k<wr.heap.size:=fun k e=>h.os.1.lt k e
 have hltc:∀k,cv.ownBlock=some k→g+1≤k∧k<wr.heap.size:=fun k e=>h.om.1.lt k e
 have glt:=h.lt
 have hb2:Blk w' g 72 #[.int .i64 f.ints, .int .i64 f.bools,fa,fc, .slice (some ⟨gv,0,none⟩) val.length val.length,sv,cv, .slice none 0 0, .slice none 0 0] :=
  (h.b.alloc o).grown hg fun e=>by have:=hlt _ e.symm;omega
 have hset:w'.grownBy (w'.setCell ⟨g,5,none⟩ sv') (some g):=wJ _ _ _ _
 have hos:=h.os.push (s:=s) (lv:=lv) (hu.mono fun b _ hb=>⟨⟨hb.1,hb.2.2⟩,hb.2.1⟩) hs ho hg hat
 have hom:OwnMat w' (g+1) (fun b=>g+1≤b∧some b≠sv'.ownBlock) cv us cs:=by
  have h1:OwnMat wr (g+1) (fun b=>(g+1≤b∧some b≠sv.ownBlock)∧b<wr.heap.size) cv us cs:=h.om.mono fun b hb hp=>⟨hp,hb⟩
  refine ((h1.grown (gQ wr o) (fJ _) fun b _=>by simp).grown hg h.ap.symm.ne fun b hb=>hb.1.2).mono fun b _ hb=>⟨hb.1.1,?_⟩
  rcases hat with e|e<;>rw [e]
  ·exact hb.1.2
  ·simp;have:=hb.2;omega
 have hkey:∀u xs,IntsO wr (dC g sv cv) u xs→IntsO (w'.setCell ⟨g,5,none⟩ sv') (dC g sv' cv) u xs:=by
  intro u xs hx
  have h1:IntsO wr (fun b=>dC g sv cv b∧b<wr.heap.size) u xs:=hx.mono fun b hb hp=>⟨hp,hb⟩
  refine (((h1.grown (gQ wr o) fun b _=>by simp).grown hg fun b hb=>hb.1.2.1).grown hset fun b hb=>by simp;have:=hb.1.1;omega).mono fun b _ hb=>⟨hb.1.1,?_,hb.1.2.2⟩
  rcases hat with e|e<;>rw [e]
  ·exact hb.1.2.1
  ·simp;have:=hb.2;omega
 refine ⟨⟨hb2.set_ 5 sv',((h.bv.alloc o).grown hg fun e=>by have:=hlt _ e.symm;omega).grown hset (by simp;omega),hos.grown hset (dM hos.1 (by omega)) fun b hb=>by simp;omega,hom.grown hset (dM hom.1 (by omega)) fun b hb=>by simp;omega,?_,h.lo,h.lt,?_,?_⟩,hb2,hkey⟩
 ·exact (h.ap.symm.append (fun k e=>by have:=hltc k e;simp;omega) hat).symm
 ·have h1:=hg.size;have h2:=h.hi;simp at h1 ⊢;omega
 ·have hl:=h.lo
  exact ((h.bl.alloc h.bl.size o).grown hg (by have:=h.bl.size;simp;omega) fun k e=>by have:=hlt k e;omega).grown hset (by have h1:=hg.size;have h2:=h.bl.size;simp at h1;omega) fun k e=>by injection e with e;omega
theorem RF.clauses {cv' u:Value} {c:List Int} {o:Obj} (h:RF w0 wr g gv f fa fc sv cv val ps us cs) (hu:IntsO wr (dC g sv cv) u c)
  (ho:w'.ownsRow (g+1) 33 1 cv' (us.length+1) (us++[u])) (hg:(wr.alloc o).grownBy w' cv.ownBlock) (hat:cv'.ownBlock=cv.ownBlock∨cv'.ownBlock=some (wr.alloc o).heap.size) :
  RF w0 (w'.setCell ⟨g,6,none⟩ cv') g gv f fa fc sv cv' val ps (us++[u]) (cs++[c])∧Blk w' g 72 #[.int .i64 f.ints, .int .i64 f.bools,fa,fc, .slice (some ⟨gv,0,none⟩) val.length val.length,sv,cv, .slice none 0 0, .slice none 0 0]:=by
 have hlt:∀k,cv.ownBlock=some k→g+1≤k∧k<wr.heap.size:=fun k e=>h.om.1.lt k e
 have hlts:∀k,sv.ownBlock=some k→g+1≤k∧k<wr.heap.size:=fun k e=>h.os.1.lt k e
 have glt:=h.lt
 have hb2:Blk w' g 72 #[.int .i64 f.ints, .int .i64 f.bools,fa,fc, .slice (some ⟨gv,0,none⟩) val.length val.length,sv,cv, .slice none 0 0, .slice none 0 0] :=
  (h.b.alloc o).grown hg fun e=>by have:=hlt _ e.symm;omega
 have hset:w'.grownBy (w'.setCell ⟨g,6,none⟩ cv') (some g):=wJ _ _ _ _
 have hom:=h.om.push (xs:=c) (hu.mono fun b _ hb=>⟨⟨hb.1,hb.2.1⟩,hb.2.2⟩) ho hg hat
 have hos:OwnStps w' (g+1) (fun b=>g+1≤b∧some b≠cv'.ownBlock) sv ps:=by
  have h1:OwnStps wr (g+1) (fun b=>(g+1≤b∧some b≠cv.ownBlock)∧b<wr.heap.size) sv ps:=h.os.mono fun b hb hp=>⟨hp,hb⟩
  refine ((h1.grown (gQ wr o) (fJ _) fun b _=>by simp).grown hg h.ap.ne fun b hb=>hb.1.2).mono fun b _ hb=>⟨hb.1.1,?_⟩
  rcases hat with e|e<;>rw [e]
  ·exact hb.1.2
  ·simp;have:=hb.2;omega
 refine ⟨⟨hb2.set_ 6 cv',((h.bv.alloc o).grown hg fun e=>by have:=hlt _ e.symm;omega).grown hset (by simp;omega),hos.grown hset (dM hos.1 (by omega)) fun b hb=>by simp;omega,hom.grown hset (dM hom.1 (by omega)) fun b hb=>by simp;omega,?_,h.lo,h.lt,?_,?_⟩,hb2⟩
 ·exact h.ap.append (fun k e=>by have:=hlts k e;simp;omega) hat
 ·have h1:=hg.size;have h2:=h.hi;simp at h1 ⊢;omega
 ·have hl:=h.lo
  exact ((h.bl.alloc h.bl.size o).grown hg (by have:=h.bl.size;simp;omega) fun k e=>by have:=hlt k e;omega).grown hset (by have h1:=hg.size;have h2:=h.bl.size;simp at h1;omega) fun k e=>by injection e with e;omega
def AddRet (w0:World) (g gv:Nat) (f:Form) (fa fc:Value) (val:List Int) (ps:List (Stp × Value)) (us:List Value) (cs:List (List Int)) (n:Nat) (e:Ending) (w':World):Prop :=
 ∃sv' cv',e = .returned (.int .i64 (n:Int))∧RF w0 w' g gv f fa fc sv' cv' val ps us cs
set_option maxRecDepth 100000 in
set_option maxHeartbeats 2000000 in
theorem nJ (s:Stp) (As Au:Option Addr) (cs' cu:Nat) (c:List Int) (h:RF w0 wr g gv f fa fc sv cv val ps us cs) (hl:IntsO wr (dC g sv cv) (.slice As s.lits.length cs') s.lits) (hs:s.ok) (hc:IntsO wr (dC g sv cv) (.slice Au c.length cu) c) (hp:ps.length≤1000000) (hu:us.length≤1000000) :
  Calls Try.prog 54 #[.pointer (some ⟨g,0,none⟩), .agg #[.int .i64 s.kind, .int .i64 s.index, .slice As s.lits.length cs', .int .i64 s.p, .int .i64 s.q, .int .i64 s.var], .slice Au c.length cu] wr
   (AddRet w0 g gv f fa fc val (ps++[(s, .slice As s.lits.length cs')]) (us++[.slice Au c.length cu]) (cs++[c]) ps.length):=by
 obtain ⟨iT,hiT,hzT0,hzT1,hzT2⟩:=qC info_step
 obtain ⟨iS,hiS,hzS0,hzS1,hzS2⟩:=qC aB
 have HC:=Lib.hid hc
 have HL:=Lib.hid hl
 have HS:=Lib.hid hs
 obtain ⟨Ax,cx,hx, -, -, -⟩:=wK h.os.1
 subst hx
 obtain ⟨Ay,cy,hy, -, -, -⟩:=wK h.om.1
 subst hy
 have H1:Hid (RF w0 (wr.alloc (.cells #[.int .i64 s.kind, .int .i64 s.index, .slice As s.lits.length cs', .int .i64 s.p, .int .i64 s.q, .int .i64 s.var] 91)) g gv f fa fc (.slice Ax ps.length cx) (.slice Ay us.length cy) val ps us cs):=h.keep ((zL _ _).alloc (Nat.le_refl _) _)
 have B1:=Blk.new wr 91 #[.int .i64 s.kind, .int .i64 s.index, .slice As s.lits.length cs', .int .i64 s.p, .int .i64 s.q, .int .i64 s.var]
 have hsz:(wr.alloc (.cells #[.int .i64 s.kind, .int .i64 s.index, .slice As s.lits.length cs', .int .i64 s.p, .int .i64 s.q, .int .i64 s.var] 91)).heap.size=wr.heap.size+1:=by simp
 have hbW:Below wr.heap.size wr (wr.alloc (.cells #[.int .i64 s.kind, .int .i64 s.index, .slice As s.lits.length cs', .int .i64 s.p, .int .i64 s.q, .int .i64 s.var] 91)):=(zL _ _).alloc (Nat.le_refl _) _
 clear hc hl hs
 go_enter Try.func54,Try.ntmps54
 go_wp2_with fail
 generalize wr.alloc (.cells #[.int .i64 s.kind, .int .i64 s.index, .slice As s.lits.length cs', .int .i64 s.p, .int .i64 s.q, .int .i64 s.var] 91)=W at *
 have r0:=B1.cell 0
 have r1:=B1.cell 1
 have r2:=B1.cell 2
 have r3:=B1.cell 3
 have r4:=B1.cell 4
 have r5:=B1.cell 5
 have q5:=H1.out.b.cell 5
 simp only [zA,zB,zC] at r0 r1 r2 r3 r4 r5 q5
 have HBW:=Lib.hid hbW
 have HSZ:=Lib.hid hsz
 have HLW:Hid (IntsO W (dC g (.slice Ax ps.length cx) (.slice Ay us.length cy)) (.slice As s.lits.length cs') s.lits):=HL.out.keep HBW.out
 have HN:Hid (∀j u,[.int .i64 s.kind, .int .i64 s.index, .slice As s.lits.length cs', .int .i64 s.p, .int .i64 s.q, .int .i64 s.var][j]? = some u→(W.alloc (.cells #[.int .i64 s.kind, .int .i64 s.index, .slice As s.lits.length cs', .int .i64 s.p, .int .i64 s.q, .int .i64 s.var] 91)).cell? ((⟨W.heap.size,0,none⟩:Addr).add j)=some u):=gH W _ [.int .i64 s.kind, .int .i64 s.index, .slice As s.lits.length cs', .int .i64 s.p, .int .i64 s.q, .int .i64 s.var] rfl
 have HO:Hid (∀u∈([.int .i64 s.kind, .int .i64 s.index, .slice As s.lits.length cs', .int .i64 s.p, .int .i64 s.q, .int .i64 s.var]:List Value),u.oneCell'=true):=by
  refine Lib.hid ?_
  intro u hu;simp at hu;rcases hu with rfl|rfl|rfl|rfl|rfl|rfl<;>rfl
 have H63:Hid (ps.length+1≤maxLen):=by refine Lib.hid ?_;unfold maxLen;omega
 have HBY:Hid ((ps.length+1) * 64≤140737488355328):=by refine Lib.hid ?_;omega
 have HBA:Hid (g+1≤(W.alloc (.cells #[.int .i64 s.kind, .int .i64 s.index, .slice As s.lits.length cs', .int .i64 s.p, .int .i64 s.q, .int .i64 s.var] 91)).heap.size):=by
  refine Lib.hid ?_
  have:=H1.out.hi
  simp at this ⊢;omega
 have q5a:=(H1.out.b.alloc (.cells #[.int .i64 s.kind, .int .i64 s.index, .slice As s.lits.length cs', .int .i64 s.p, .int .i64 s.q, .int .i64 s.var] 91)).cell 5
 simp only [zA,zB,zC] at q5a
 clear hbW hsz B1
 go_region_law (refine wL rfl (.tmp 11) (.tmp 13) 31 rfl (g+1) 91 iT zT 6 64 Try.underlying31 hiT hzT0 hzT1 hzT2 rfl (by decide) (.slice Ax ps.length cx) ps.length (ps.flatMap Stp.cells) (by simp [Act.eval]) (H1.out.os.1.alloc _).drew ⟨W.heap.size,0,none⟩ 1 1 [.int .i64 s.kind, .int .i64 s.index, .slice As s.lits.length cs', .int .i64 s.p, .int .i64 s.q, .int .i64 s.var] (by simp [Act.eval]) rfl HN.out HO.out H63.out HBY.out HBA.out ?_;intro v' w2 hown hg hat;obtain ⟨A',c',hv', -, -, -⟩:=wK hown;subst hv';obtain ⟨hrf,hb2,hky⟩:=H1.out.steps (s:=s) HLW.out HS.out hown (show (W.alloc _).grownBy w2 _ from ⟨hg.os,hg.tape,hg.output,hg.size,hg.block⟩) hat;have HRF:=Lib.hid hrf;have HCW:=Lib.hid (hky _ _ (HC.out.keep HBW.out));have c5:=hb2.cell 5;have z5:=hb2.frozen 5;simp only [zA,zB,zC] at c5;clear hrf hb2 hky hown hg hat)
 all_goals
  clear r0 r1 r2 r3 r4 r5 q5 q5a c5 z5 HN HO H63 HBY HBA HLW
  generalize w2.setCell ⟨g,5,none⟩ (.slice A' (ps.length+1) c')=w3 at *
  have q6:=HRF.out.b.cell 6
  simp only [zA,zB,zC] at q6
  have HO1:Hid (∀u∈([.slice Au c.length cu]:List Value),u.oneCell'=true):=by
   refine Lib.hid ?_
   intro u hu;simp at hu;subst hu;rfl
  have HM1:Hid (us.length+1≤maxLen):=by refine Lib.hid ?_;unfold maxLen;omega
  have HM2:Hid ((us.length+1) * 24≤140737488355328):=by refine Lib.hid ?_;omega
  have HM3:Hid (g+1≤(w3.alloc (.cells #[.slice Au c.length cu] 33)).heap.size):=by
   refine Lib.hid ?_
   have:=HRF.out.hi
   simp;omega
  go_wp2_with (at_builtin;refine zV _ rfl _ _ 27 rfl (g+1) 33 iS (.slice none 0 0) 1 24 Try.underlying27 hiS hzS0 hzS1 hzS2 rfl (by decide) _ _ _ rfl (HRF.out.om.1.alloc _) ⟨w3.heap.size,0,none⟩ 1 1 [.slice Au c.length cu] rfl rfl (gD w3 _ _) HO1.out HM1.out HM2.out HM3.out ?_;intro v4 w4 hown hg _ hat;obtain ⟨A4,c4,hv4, -, -, -⟩:=wK hown;subst hv4;obtain ⟨hrf,hb4⟩:=HRF.out.clauses HCW.out hown hg hat;have HR4:=Lib.hid hrf;have c6:=hb4.cell 6;have c5:=hb4.cell 5;have z6:=hb4.frozen 6;simp only [zA,zB,zC] at c5 c6;clear hrf hb4 hown hg hat)
  go_wp2_with fail
  go_ret
  exact ⟨_,_,rfl,HR4.out⟩
end
def falseB (val:List Int) (x:Int):Bool:=val.getD (x.natAbs-1) 0 == -x
def failsB (val:List Int) (c:List Int):Bool:=c.all (falseB val)
set_option maxRecDepth 100000 in
set_option maxHeartbeats 1000000 in
theorem rfails_any {w0 W:World} {g gv:Nat} {f:Form} {fa fc sv cv:Value} {val:List Int} {ps:List (Stp × Value)} {us:List Value} {cs:List (List Int)} (v:Value) (c:List Int) (h:RF w0 W g gv f fa fc sv cv val ps us cs) (hv:Ints W v c) (hc:∀x∈c,x≠0 ∧ -(val.length:Int)≤x∧x≤val.length) (hl:val.length≤1024) :
  Calls Try.prog 72 #[.pointer (some ⟨g,0,none⟩),v] W fun e w'=>e = .returned (.bool (failsB val c))∧Below W.heap.size W w':=by
 have H1:=Lib.hid h
 have HC:=Lib.hid hc
 obtain ⟨A,cp,rfl,h1,h2,h3,hr⟩:=hv
 unfold maxLen at h2
 have HR:=Lib.hid hr
 clear h3 hr hc h
 go_enter Try.func72,Try.ntmps72
 go_wp2_with fail
 go_loopw [9] (fun i wr=>∃k:Nat,k≤c.length∧i = .int .i64 k∧(c.take k).all (falseB val)=true∧Below W.heap.size W wr) (fun i _=>c.length-(intOf i).toNat)
 case atStart=>exact ⟨0,by omega,rfl,by simp,zL _ _⟩
 case round =>
  obtain ⟨k,hk,rfl,hall,hbl⟩:=hrel
  have HB:=Lib.hid hbl
  have HALL:=Lib.hid hall
  have H2:=Lib.hid (H1.out.keep hbl)
  clear hbl hall
  by_cases hlt:k<c.length
  ·obtain ⟨x,hx⟩:∃x,c[k]? = some x:=⟨_,List.getElem?_eq_getElem hlt⟩
   obtain ⟨b1,o1,rfl,hb1,hc1⟩:=(HR.out.keep HB.out).int hx
   have HX:=Lib.hid hx
   obtain ⟨x0,x1,x2⟩:=HC.out x (List.mem_of_getElem? hx)
   obtain ⟨n,hn⟩:∃n:Nat,x.natAbs=n+1:=⟨x.natAbs-1,by omega⟩
   have hnl:n<val.length:=by omega
   obtain ⟨y,hy⟩:∃y,val[n]? = some y:=⟨_,List.getElem?_eq_getElem hnl⟩
   have q4:=H2.out.b.cell 4
   have p1:=H2.out.bv.cell n
   rw [gO hy] at p1
   simp only [zA,zB,zC] at q4
   have HS:Hid (∀m,Calls Try.prog 48 #[.int .i64 x] (wr.drewN m) fun e w'=>e = .returned (.int .i64 ((n:Int)+1))∧w'=wr.drewN m):=fun m=>by
    have h:=bW x (wr.drewN m) ⟨by omega,by omega⟩ (by omega)
    rw [hn] at h
    exact h.mono fun e w' hh=>⟨hh.1,hh.2.symm⟩
   have HF:Hid (falseB val x=(y == -x)):=by
    refine Lib.hid ?_
    unfold falseB
    rw [hn,vH,List.getD_eq_getElem?_getD,hy];rfl
   have y1:IntKind.i64.wrap ((n:Int)+1-1)=(n:Int):=by rw [show (n:Int)+1-1=(n:Int) by omega];exact qS _ (by omega)
   have y2:IntKind.i64.wrap (-x) = -x:=qS _ (by omega)
   have y3:(n:Int)<(val.length:Int):=by omega
   clear hx hy hn
   by_cases e:y = -x
   ·have de:(y != -x)=false:=by simp [e]
    have HN:Hid ((c.take (k+1)).all (falseB val)=true):=dW HALL.out HX.out (by rw [HF.out];simp [e])
    clear e
    go_wp2_with fail
    go_quiet ((go_at_call 48;exact kC (HS.out _)))
    clear y1 y2
    go_wp2_with fail
    go_roundw
    case rel=>exact ⟨k+1,by omega,by go_num,HN.out,bC HB.out _⟩
    case measure=>simp [intOf];omega
   ·have de:(y != -x)=true:=by simp [e]
    have HN:Hid (failsB val c=false):=by
     refine Lib.hid ?_
     unfold failsB
     rw [kQ]
     exact ⟨x,List.mem_of_getElem? HX.out,by rw [HF.out];simp [e]⟩
    clear e
    go_wp2_with fail
    go_quiet ((go_at_call 48;exact kC (HS.out _)))
    clear y1 y2
    go_wp2_with fail
    go_ret
    exact ⟨by rw [HN.out];rfl,bC HB.out _⟩
  ·have HN:Hid (failsB val c=true):=aW HALL.out (by omega)
   go_wp2_with fail
   go_ret
   exact ⟨by rw [HN.out];rfl,HB.out⟩
end Go.Proofs.Yticieifacalocaa
