/- Neg StepApp Tape Problem RefLaw DFit -/
import Derived.Test.YticieifacalocaaTSH10
import Derived.Deep.DeepCutAuto
import Derived.ChangeAlike
namespace Go.Proofs.Yticieifacalocaa
open Go.RowKit
def Round (n:Nat) (M:Int) (l:List Diff) (r:Nat) (xs bs:List Int) (la:Int):Prop :=
 (r=0∧Bell n M l 0 0 xs bs (-1))∨∃q,r=q+1∧Bell n M l q l.length xs bs la∧0≤la
theorem Round.go {n:Nat} {M:Int} {l:List Diff} {r:Nat} {xs bs:List Int} {la:Int} (h:Round n M l r xs bs la):Bell n M l r 0 xs bs (-1):=by
 rcases h with ⟨rfl,h⟩|⟨q,rfl,h,_⟩
 ·exact h
 ·exact h.next
def ksN (bs:List Int) (p:Nat→Int) (n m:Nat):List Nat:=(List.range m).map fun i=>(gi bs (p (n+i))).toNat
theorem ksN_succ (bs:List Int) (p:Nat→Int) (n m:Nat):ksN bs p n (m+1)=ksN bs p n m++[(gi bs (p (n+m))).toNat]:=by
 unfold ksN;rw [List.range_succ,List.map_append];rfl
theorem ksN_sum (l:List Diff) (bs:List Int) (p:Nat→Int) (n m:Nat):csum ((ksN bs p n m).map fun k=>l.getD k ⟨0,0,0⟩)=nH l bs p n m:=by
 induction m with
 | zero=>rfl
 | succ m ih =>
  rw [ksN_succ,List.map_append,nH,←ih]
  unfold csum
  rw [List.map_append,List.sum_append,List.getD_eq_getElem?_getD.symm]
  simp
theorem cyc_of_way {n d:Nat} {l:List Diff} {bs:List Int} {p:Nat→Int} (hw:Way n l bs p) (d0:0<d) (d2:p (n+d)=p n) (d4:nH l bs p n d<0) :
  (∀k∈ksN bs p n d,k<l.length)∧Cyc ((ksN bs p n d).map fun k=>l.getD k ⟨0,0,0⟩):=by
 have hk:∀i,∃e:Diff,l[(gi bs (p (n+i))).toNat]? = some e∧e.x=p (n+i)∧e.y=p (n+i+1):=by
  intro i
  obtain ⟨_,_,k,e,h1,h2,h3,h4⟩:=hw (n+i)
  exact ⟨e,by rw [h1,Int.toNat_natCast];exact h2,h3,h4⟩
 have hat:∀i,i<d→∃e:Diff,((ksN bs p n d).map fun k=>l.getD k ⟨0,0,0⟩)[i]? = some e∧e.x=p (n+i)∧e.y=p (n+i+1):=by
  intro i hi
  obtain ⟨e,h1,h2,h3⟩:=hk i
  refine ⟨e,?_,h2,h3⟩
  unfold ksN
  rw [List.getElem?_map,List.getElem?_map,vY hi]
  simp [h1]
 have hlen:((ksN bs p n d).map fun k=>l.getD k ⟨0,0,0⟩).length=d:=by simp [ksN]
 refine ⟨fun k hm => ?_,by rw [hlen];exact d0,?_,by rw [ksN_sum];exact d4⟩
 ·unfold ksN at hm
  obtain ⟨i,_,rfl⟩:=List.mem_map.1 hm
  obtain ⟨e,h1,_⟩:=hk i
  exact (zG.1 h1).1
 ·intro i a b hi ha hb
  rw [hlen] at hi hb
  obtain ⟨e,h1,h2,h3⟩:=hat i hi
  rw [h1] at ha;injection ha with ha;subst ha
  rw [h3]
  by_cases hlt:i+1<d
  ·rw [uK hlt] at hb
   obtain ⟨e2,g1,g2,_⟩:=hat (i+1) hlt
   rw [g1] at hb;injection hb with hb;subst hb
   rw [g2,jN]
  ·have:i+1=d:=by omega
   rw [this,Nat.mod_self] at hb
   obtain ⟨e2,g1,g2,_⟩:=hat 0 d0
   rw [g1] at hb;injection hb with hb;subst hb
   rw [g2,jN,this,d2];rfl
theorem jZ {P:Program} {ops:Array Oper} {o:Oper} {a:Act} {w:World} {K:Act→World→Prop} {Q:Exit→Act→World→Prop} {E:Prop} (hgd:o.guard=none) (s x:Operand) (t:TypeId)
  (ho:o.op = .call { callee := .builtin .append,args := #[s,x],argTypes := #[t,t] })
  (base:Nat) (e:TypeId) (i:TypeInfo) (z:Value) (size bytes:Nat) (ht:P.underlying t=some (.slice e)) (hi:P.info? e=some i) (hz:i.zero=some z)
  (hsize:i.size=size) (hby:i.bytes=bytes) (hzs:z.cells.size=size) (hsz:0<size)
  (v:Value) (n:Nat) (xs:List Value) (hs:a.eval s=v) (hown:w.ownsRow base e size v n xs)
  (ad:Addr) (m c:Nat) (news:List Value) (hx:a.eval x = .slice (some ad) m c) (hl:news.length=m * size) (hnews:∀j u,news[j]? = some u→w.cell? (ad.add j)=some u) (h1:∀u∈news,u.oneCell'=true)
  (h63:n+m≤maxLen) (hbytes:(n+m) * bytes≤140737488355328) (hbase:base≤w.heap.size)
  (h:∀v' w',w'.ownsRow base e size v' (n+m) (xs++news)→w.grownBy w' v.ownBlock→(v'.ownBlock=v.ownBlock∨v'.ownBlock=some w.heap.size)→K (a.put o.dst v') w') :
  if Region.wanted o (yielded ops a.tmps)=true then Oper.wp P o a w K Q else E:=by
 have hw:Region.wanted o (yielded ops a.tmps)=true:=by simp [Region.wanted,hgd]
 rw [if_pos hw]
 obtain ⟨v',w',hr,h2,h3,_,h5⟩:=run_append_own_at (P:=P) w base t o.type e i z size bytes ht hi hz hsize hby hzs hsz v n xs hown ad m c news hl hnews h1 h63 hbytes hbase
 unfold Oper.wp execOp
 simp only [ho,resolve,invoke,builtin,vN,vO,xY,kW,qC,xU,hs,hx,hr]
 exact h v' w' h2 h3 h5
def Byts (w:World) (v:Value) (xs:List Int):Prop :=
 ∃A c,v = .slice A xs.length c∧xs.length≤c∧c≤maxLen∧(∀x∈xs,0≤x∧x≤255)∧Rd w A (xs.map (Value.int .u8))
theorem Byts.keep {w w':World} {v:Value} {xs:List Int} (h:Byts w v xs) (hb:Below w.heap.size w w'):Byts w' v xs:=by
 obtain ⟨A,c,hv,hl,hm,hx,hr⟩:=h
 exact ⟨A,c,hv,hl,hm,hx,hr.keep hb⟩
def NextRet (w:World) (g:Nat) (lv:Value) (len:Nat) (n:Int) (e:Ending) (w':World):Prop :=
 ∃(x:Int) (at':Nat),e = .returned (.int .i64 x)∧0≤x∧x<n∧at'≤len∧Blk w' g 101 #[lv, .int .i64 at']∧w.grownBy w' (some g)∧w'.heap.size=w.heap.size
set_option maxRecDepth 100000 in
set_option maxHeartbeats 1000000 in
theorem eX (g:Nat) (lv:Value) (at_:Nat) (L:List Int) (n:Int) (w:World) (hB:Blk w g 101 #[lv, .int .i64 at_]) (hL:Byts w lv L) (h1:1≤n) (h2:n≤1000000) (hat:at_≤L.length) (hlen:L.length≤1000000) :
  Calls Try.prog 44 #[.pointer (some ⟨g,0,none⟩), .int .i64 n] w (NextRet w g lv L.length n):=by
 have q0:=hB.cell 0
 have q1:=hB.cell 1
 simp only [zA,zB,zC] at q0 q1
 have f1:=hB.frozen 1
 have hgl:=hB.lt
 have HB:=Lib.hid hB
 obtain ⟨A,c,rfl,k1,k2,k3,hr⟩:=hL
 have HR:=Lib.hid hr
 have HX:=Lib.hid k3
 clear hB k2 k3 hr
 have dn:decide (n<1)=false:=by simp;omega
 by_cases hlt:at_<L.length
 ·obtain ⟨x,hx⟩:∃x,L[at_]? = some x:=⟨_,List.getElem?_eq_getElem hlt⟩
  obtain ⟨b,o,rfl,hb,hc⟩:=HR.out.at_ (u := .int .u8 x) (by rw [List.getElem?_map,hx];rfl)
  obtain ⟨x1,x2⟩:=HX.out x (List.mem_of_getElem? hx)
  have hbg:b≠g:=by
   rintro rfl
   rw [HB.out.cell] at hc
   rcases h:o+at_ with _|_|m<;>rw [h] at hc<;>simp at hc
  clear hx
  have d1:decide ((L.length:Int)≤(at_:Int))=false:=by simp;omega
  go_enter Try.func44,Try.ntmps44
  go_wp2_with fail
  go_quiet (fail)
  go_wp2_with fail
  have B1:Blk ((w.drewN nq).setCell ⟨g,1,none⟩ (.int .i64 ((at_:Int)+1))) g 101 #[.slice (some ⟨b,o,none⟩) L.length c, .int .i64 ((at_:Int)+1)]:=(HB.out.drewN nq).set_ 1 _
  have hc1:((w.drewN nq).setCell ⟨g,1,none⟩ (.int .i64 ((at_:Int)+1))).cell? ⟨b,o+at_,none⟩=some (.int .u8 x) :=
   (yK (a:=⟨b,o+at_,none⟩) (kI (w.drewN nq) ⟨g,1,none⟩ _ b hbg)).trans hc
  have hgr:w.grownBy ((w.drewN nq).setCell ⟨g,1,none⟩ (.int .i64 ((at_:Int)+1))) (some g) :=
   ⟨rfl,rfl,rfl,by simp,fun k _ hne=>kI (w.drewN nq) ⟨g,1,none⟩ _ k (by simpa using hne)⟩
  have hsz:((w.drewN nq).setCell ⟨g,1,none⟩ (.int .i64 ((at_:Int)+1))).heap.size=w.heap.size:=by simp
  generalize (w.drewN nq).setCell ⟨g,1,none⟩ (.int .i64 ((at_:Int)+1))=W at *
  have q0:=B1.cell 0
  have q1:=B1.cell 1
  simp only [zA,zB,zC] at q0 q1
  have HB1:=Lib.hid B1
  have HG:=Lib.hid hgr
  have HSZ:=Lib.hid hsz
  clear B1 hgr hc hsz
  have y1:IntKind.i64.wrap ((at_:Int)+1-1)=(at_:Int):=by rw [show (at_:Int)+1-1=at_ by omega];exact qN _ (by omega)
  have y2:((at_:Int)).toNat=at_:=by omega
  have y3:IntKind.i64.wrap x=x:=qN _ (by omega)
  have ym1:0≤x % n:=vC _ (by omega)
  have ym2:x % n<n:=kJ _ (by omega)
  have y4:IntKind.i64.wrap (x % n)=x % n:=qN _ (by omega)
  have y5:(n == 0)=false:=by simp;omega
  go_quiet (fail)
  go_wp2_with fail
  go_ret
  exact ⟨x % n,at_+1,rfl,ym1,ym2,by omega,HB1.out.drewN _,⟨HG.out.os,HG.out.tape,HG.out.output,HG.out.size,HG.out.block⟩,HSZ.out⟩
 ·have d1:decide ((L.length:Int)≤(at_:Int))=true:=by simp;omega
  go_enter Try.func44,Try.ntmps44
  go_wp2_with fail
  go_quiet (fail)
  go_wp2_with fail
  go_ret
  exact ⟨0,at_,rfl,by omega,by omega,hat,HB.out.drewN _,⟨rfl,rfl,rfl,Nat.le_refl _,fun _ _ _=>rfl⟩,rfl⟩
def sG (w:World) (v:Value) (a b c:Int) (L:List Int):Prop :=
 ∃lv,v = .agg #[.int .u8 a, .int .u8 b, .int .u8 c,lv]∧(0≤a∧a≤255)∧(0≤b∧b≤255)∧(0≤c∧c≤255)∧Byts w lv L
structure FS (w wr:World) (a b c:Int) (nv lv:Value) (ints bools:Int) (av cv:Value) (at_:Nat):Prop where
 p0:Blk wr w.heap.size 25 #[.int .u8 a, .int .u8 b, .int .u8 c,nv]
 p1:Blk wr (w.heap.size+1) 29 #[.int .i64 0, .int .i64 0, .slice none 0 0, .slice none 0 0]
 p2:Blk wr (w.heap.size+1+1) 29 #[.int .i64 ints, .int .i64 bools,av,cv]
 p3:Blk wr (w.heap.size+1+1+1) 101 #[lv, .int .i64 at_]
 bl:Below w.heap.size w wr
theorem FS.grown {w wr w':World} {a b c:Int} {nv lv av cv:Value} {ints bools:Int} {at_:Nat} {row:Option Nat} (h:FS w wr a b c nv lv ints bools av cv at_) (hg:wr.grownBy w' row) (hne:∀g,row=some g→w.heap.size+1+1+1<g) :
  FS w w' a b c nv lv ints bools av cv at_:=by
 have ne:∀k,k≤w.heap.size+1+1+1→some k≠row:=fun k hk e=>by have:=hne k e.symm;omega
 exact ⟨h.p0.grown hg (ne _ (by omega)),h.p1.grown hg (ne _ (by omega)),h.p2.grown hg (ne _ (by omega)),h.p3.grown hg (ne _ (by omega)),h.bl.grown hg h.bl.size fun g e=>by have:=hne g e;omega⟩
theorem FS.next {w wr w':World} {a b c:Int} {nv lv av cv:Value} {ints bools:Int} {at_ at':Nat} (h:FS w wr a b c nv lv ints bools av cv at_) (hg:wr.grownBy w' (some (w.heap.size+1+1+1))) (hB:Blk w' (w.heap.size+1+1+1) 101 #[lv, .int .i64 at']) :
  FS w w' a b c nv lv ints bools av cv at':=by
 have ne:∀k,k<w.heap.size+1+1+1→some k≠some (w.heap.size+1+1+1):=fun k hk e=>by injection e with e;omega
 exact ⟨h.p0.grown hg (ne _ (by omega)),h.p1.grown hg (ne _ (by omega)),h.p2.grown hg (ne _ (by omega)),hB,h.bl.grown hg h.bl.size fun g e=>by injection e with e;omega⟩
theorem yz (X ints x:Int) (h1:0≤X) (h2:X<ints) (h3:2≤ints) (h4:ints≤6) (hx:0≤x) :
  ∃Y Z:Int,x % (ints-1)=Y∧x.tmod (ints-1)=Y∧(X+1+Y) % ints=Z∧(X+1+Y).tmod ints=Z∧0≤Y∧Y<ints-1∧0≤Z∧Z<ints∧Z≠X:=by
 have hy0:0≤x % (ints-1):=vC _ (by omega)
 have hy1:x % (ints-1)<ints-1:=kJ _ (by omega)
 refine ⟨x % (ints-1),(X+1+x % (ints-1)) % ints,rfl,qK hx,rfl,qK (by omega),hy0,hy1,vC _ (by omega),kJ _ (by omega),?_⟩
 generalize x % (ints-1)=Y at *
 have:ints=2∨ints=3∨ints=4∨ints=5∨ints=6:=by omega
 rcases this with rfl|rfl|rfl|rfl|rfl<;>omega
theorem setS {w:World} {g f:Nat} {X C ints:Int} (h:Blk w g 50 #[.int .i64 X, .int .i64 0, .int .i64 C]) (hf:w.cell? ⟨f,0,none⟩=some (.int .i64 ints)) (hne:f≠g) (Z:Int) :
  (w.setCell ⟨g,1,none⟩ (.int .i64 Z)).cell? ⟨g,0,none⟩=some (.int .i64 X)∧(w.setCell ⟨g,1,none⟩ (.int .i64 Z)).cell? ⟨f,0,none⟩=some (.int .i64 ints) :=
 ⟨(h.set_ 1 (.int .i64 Z)).cell 0,(yK (a:=⟨f,0,none⟩) (kI w ⟨g,1,none⟩ _ f hne)).trans hf⟩
def SmallF (a b c:Int) (f:Form):Prop :=
 f.ints=2+a % 5∧(f.atoms.length:Int)=1+b % 12∧f.bools=f.atoms.length+c % 7∧f.clauses.length≤40∧(∀d∈f.atoms,dV f.ints d=true ∧ -4≤d.c∧d.c≤2) ∧
  ∀xs∈f.clauses,1≤xs.length∧xs.length≤4∧∀x∈xs,dF f.bools x=true
theorem SmallF.valid {a b c:Int} {f:Form} (h:SmallF a b c f):validF f=0:=by
 obtain ⟨h1,h2,h3,h4,h5,h6⟩:=h
 rw [aA (by omega) (by omega) (by omega) (by omega) (by omega) (by omega),aZ]
 ·rfl
 ·rw [qH];exact fun d hd=>(h5 d hd).1
 ·rw [qH];intro xs hx;rw [qH];exact (h6 xs hx).2.2
structure F2 (w wr:World) (a b c:Int) (nv lv:Value) (ints bools:Int) (av cv:Value) (at_:Nat) (ds:List Diff) (B:Nat):Prop where
 fs:FS w wr a b c nv lv ints bools av cv at_
 ow:wr.ownsRow (w.heap.size+4) 50 3 av ds.length (ds.flatMap Diff.cells)
 av_:∀g,av.ownBlock=some g→g<B
 lo:w.heap.size+4≤B
 hi:B≤wr.heap.size
section
variable {w wr w':World} {a b c:Int} {nv lv:Value} {ints bools:Int} {av cv:Value} {at_:Nat} {ds:List Diff} {B:Nat}
theorem F2.grown {row:Option Nat} (h:F2 w wr a b c nv lv ints bools av cv at_ ds B) (hg:wr.grownBy w' row) (hne:∀g,row=some g→B≤g):F2 w w' a b c nv lv ints bools av cv at_ ds B:=by
 have lo:=h.lo
 refine ⟨h.fs.grown hg fun g e=>by have:=hne g e;omega,h.ow.kept hg ?_,h.av_,h.lo,qA h.hi hg.size⟩
 cases e:av.ownBlock with
 | none=>exact .inl rfl
 | some g=>right;intro e';have h1:=h.av_ g e;have:=hne g e'.symm;omega
theorem F2.next {at':Nat} (h:F2 w wr a b c nv lv ints bools av cv at_ ds B) (hg:wr.grownBy w' (some (w.heap.size+1+1+1))) (hB:Blk w' (w.heap.size+1+1+1) 101 #[lv, .int .i64 at']):F2 w w' a b c nv lv ints bools av cv at' ds B:=by
 refine ⟨h.fs.next hg hB,h.ow.kept hg ?_,h.av_,h.lo,qA h.hi hg.size⟩
 cases e:av.ownBlock with
 | none=>exact .inl rfl
 | some g=>right;have:=h.ow.lt g e;simp;omega
theorem F2.setC (h:F2 w wr a b c nv lv ints bools av cv at_ ds B) (cv':Value):F2 w (wr.setCell ⟨w.heap.size+1+1,3,none⟩ cv') a b c nv lv ints bools av cv' at_ ds B:=by
 have hg:=jY wr (w.heap.size+1+1) 3 cv'
 have ne:∀k,k≠w.heap.size+1+1→some k≠some (w.heap.size+1+1):=fun k hk e=>by injection e with e;omega
 refine ⟨⟨h.fs.p0.grown hg (ne _ (by omega)),h.fs.p1.grown hg (ne _ (by omega)),h.fs.p2.set_ 3 cv',h.fs.p3.grown hg (ne _ (by omega)),h.fs.bl.grown hg h.fs.bl.size fun g e=>by injection e with e;omega⟩,h.ow.kept hg ?_,h.av_,h.lo,qA h.hi hg.size⟩
 cases e:av.ownBlock with
 | none=>exact .inl rfl
 | some g=>right;have:=h.ow.lt g e;simp;omega
end
theorem FS.setA {w wr:World} {a b c:Int} {nv lv av cv:Value} {ints bools:Int} {at_:Nat} (h:FS w wr a b c nv lv ints bools av cv at_) (av':Value) :
  FS w (wr.setCell ⟨w.heap.size+1+1,2,none⟩ av') a b c nv lv ints bools av' cv at_:=by
 have hg:=jY wr (w.heap.size+1+1) 2 av'
 have ne:∀k,k≠w.heap.size+1+1→some k≠some (w.heap.size+1+1):=fun k hk e=>by injection e with e;omega
 exact ⟨h.p0.grown hg (ne _ (by omega)),h.p1.grown hg (ne _ (by omega)),h.p2.set_ 2 av',h.p3.grown hg (ne _ (by omega)),h.bl.grown hg h.bl.size fun g e=>by injection e with e;omega⟩
theorem FS.setB {w wr:World} {a b c:Int} {nv lv av cv:Value} {ints bools:Int} {at_:Nat} (h:FS w wr a b c nv lv ints bools av cv at_) (bl:Int) :
  FS w (wr.setCell ⟨w.heap.size+1+1,1,none⟩ (.int .i64 bl)) a b c nv lv ints bl av cv at_:=by
 have hg:=jY wr (w.heap.size+1+1) 1 (.int .i64 bl)
 have ne:∀k,k≠w.heap.size+1+1→some k≠some (w.heap.size+1+1):=fun k hk e=>by injection e with e;omega
 exact ⟨h.p0.grown hg (ne _ (by omega)),h.p1.grown hg (ne _ (by omega)),h.p2.set_ 1 _,h.p3.grown hg (ne _ (by omega)),h.bl.grown hg h.bl.size fun g e=>by injection e with e;omega⟩
def room (g:Nat) (wr:World):Nat:=match wr.cell? ⟨g,3,none⟩ with
 | some (.slice _ n _)=>40-n
 | _=>0
def okCl (bools:Int) (xs:List Int):Prop:=1≤xs.length∧xs.length≤4∧∀x∈xs,dF bools x=true
theorem eQ (w:World) (g:Nat) (n:Nat) (u0 u1 u2 u3:Value):w.grownBy (((((w.drewN n).setCell ⟨g,0,none⟩ u0).setCell ⟨g,1,none⟩ u1).setCell ⟨g,2,none⟩ u2).setCell ⟨g,3,none⟩ u3) (some g):=by
 have h0:w.grownBy (w.drewN n) (some g):=⟨rfl,rfl,rfl,Nat.le_refl _,fun _ _ _=>rfl⟩
 exact gG (gG (gG (gG h0 (jY _ g 0 u0)) (jY _ g 1 u1)) (jY _ g 2 u2)) (jY _ g 3 u3)
theorem runS_lenT {f:Form} {a cs:List (List Int)} {l:List Stp} (h:wX f a l=(cs,true)):cs.length=a.length+l.length:=by
 induction l generalizing a with
 | nil=>rw [wX] at h;injection h with h _;rw [h];simp
 | cons s l ih =>
  rw [wX] at h
  cases e:deriv f s a with
  | none=>rw [e] at h;injection h with _ h;cases h
  | some c=>rw [e] at h;have:=ih h;simp at this ⊢;omega
def pA (atoms:List Diff) (bs:List Bool) (xs:List Int):Prop:=∀(i:Nat) (d:Diff),atoms[i]? = some d→bs[i]? = some (decide (gi xs d.x-gi xs d.y≤d.c))
theorem pR {atoms:List Diff} {bs:List Bool} {xs:List Int} (hf:pA atoms bs xs) {lit:Int} {d:Diff} (hb:bound atoms lit=some d):(holds bs lit=true∧gi xs d.x-gi xs d.y≤d.c)∨holds bs (-lit)=true:=by
 rcases cA lit with rfl|⟨n,rfl⟩|⟨n,rfl⟩
 ·rw [sP] at hb;cases hb
 ·rw [aI] at hb
  have h1:=hf n d hb
  by_cases h:gi xs d.x-gi xs d.y≤d.c
  ·refine .inl ⟨?_,h⟩
   rw [bF,List.getD_eq_getElem?_getD,h1];simp [h]
  ·refine .inr ?_
   rw [bC,h1];simp [h]
 ·rw [aJ] at hb
  obtain ⟨a,ha,rfl⟩:=qR.1 hb
  have h1:=hf n a ha
  by_cases h:gi xs a.x-gi xs a.y≤a.c
  ·refine .inr ?_
   rw [show -(-((n:Int)+1))=(n:Int)+1 by omega,bF,List.getD_eq_getElem?_getD,h1];simp [h]
  ·refine .inl ⟨?_,?_⟩
   ·rw [bC,h1];simp [h]
   ·simp only [Diff.opp];omega
theorem chain_sum (X:Int→Int) (ds:List Diff) (d0:Diff) (h:∀(i:Nat) (a b:Diff),(d0::ds)[i]? = some a→(d0::ds)[i+1]? = some b→a.y=b.x) :
  ((d0::ds).map fun d=>X d.x-X d.y).sum=X d0.x-X ((d0::ds).getLast (by simp)).y:=by
 induction ds generalizing d0 with
 | nil=>simp
 | cons d1 r ih =>
  have h01:=h 0 d0 d1 rfl rfl
  have:=ih d1 fun i a b h1 h2=>h (i+1) a b h1 h2
  rw [qC,vB,this,List.getLast_cons (List.cons_ne_nil d1 r),h01]
  omega
theorem cyc_sum (X:Int→Int) {ds:List Diff} (h:hJ ds ds.length):(ds.map fun d=>X d.x-X d.y).sum=0:=by
 cases ds with
 | nil=>rfl
 | cons d0 r =>
  rw [chain_sum X r d0 fun i a b h1 h2 => ?_]
  ·have hlast:(d0::r)[r.length]? = some ((d0::r).getLast (by simp)):=by
    rw [uJ];simp
   have:=h r.length _ d0 (by simp) hlast (by simp)
   rw [this];omega
  ·have hi:=(zG.1 h2).1
   refine h i a b (by omega) h1 ?_
   rw [uK hi];exact h2
theorem sum_le_map {α:Type} (p q:α→Int) (l:List α) (h:∀d∈l,p d≤q d):(l.map p).sum≤(l.map q).sum:=by
 induction l with
 | nil=>simp
 | cons d r ih =>
  have h1:=h d (by simp)
  have h2:=ih fun d hd=>h d (by simp [hd])
  simp only [qC,vB]
  omega
theorem cyc_no (X:Int→Int) {ds:List Diff} (h:Cyc ds):∃d∈ds,¬X d.x-X d.y≤d.c:=by
 apply qF
 intro hn
 have h1:=cyc_sum X h.2.1
 have h2:=sum_le_map (fun d:Diff=>X d.x-X d.y) (fun d:Diff=>d.c) ds fun d hd=>qF fun hc=>hn ⟨d,hd,hc⟩
 have h3:=h.2.2
 unfold csum at h3
 have e:(ds.map fun d:Diff=>d.c)=ds.map Diff.c:=rfl
 rw [e] at h2
 omega
theorem lZ {xs c:List Int} (h:wJ xs=some c) (p:Int→Bool):c.any p=xs.any p:=by
 have hs:=gD xs
 rw [h] at hs
 rw [Bool.eq_iff_iff,kC,kC]
 exact ⟨fun ⟨x,h1,h2⟩=>⟨x,(hs.2.1 x).1 h1,h2⟩,fun ⟨x,h1,h2⟩=>⟨x,(hs.2.1 x).2 h1,h2⟩⟩
theorem bnds_mem {atoms:List Diff} {lits:List Int} {ds:List Diff} (h:iF atoms lits=some ds) {d:Diff} (hd:d∈ds):∃x∈lits,bound atoms x=some d:=by
 have h1:=bA.1 h
 have h2:some d∈ds.map some:=List.mem_map.2 ⟨d,hd,rfl⟩
 rw [←h1] at h2
 obtain ⟨x,h3,h4⟩:=List.mem_map.1 h2
 exact ⟨x,h3,h4⟩
theorem holds_one (bs:List Bool) (v:Int) (h:holds bs v=true):holds bs (-v)=false:=by
 rcases cA v with rfl|⟨n,rfl⟩|⟨n,rfl⟩
 ·rfl
 ·rw [bF,List.getD_eq_getElem?_getD] at h
  rw [bC]
  cases e:bs[n]? with
  | none=>rfl
  | some b=>rw [e] at h;simp at h;simp [h]
 ·rw [bC] at h
  rw [show -(-((n:Int)+1))=(n:Int)+1 by omega,bF,List.getD_eq_getElem?_getD]
  cases e:bs[n]? with
  | none=>rw [e] at h;cases h
  | some b=>rw [e] at h;simp at h;simp [h]
theorem pI {f:Form} {bs:List Bool} {xs:List Int} (hf:pA f.atoms bs xs) (hc:∀c∈f.clauses,c.any (holds bs)=true) {s:Stp} {cs:List (List Int)} (hcs:∀c∈cs,c.any (holds bs)=true) {c:List Int} (h:deriv f s cs=some c):c.any (holds bs)=true:=by
 unfold deriv at h
 split at h
 ·split at h
  ·obtain ⟨a,h1,h2⟩:=yI.1 h
   rw [lZ h2]
   exact hc a (List.mem_of_getElem? h1)
  ·cases h
 ·split at h
  ·unfold cyc at h
   split at h
   ·rename_i ds hds
    split at h
    ·rename_i hcy
     rw [lZ h,kC]
     obtain ⟨d,hd,hno⟩:=cyc_no (gi xs) (show Cyc ds from by simpa [cycB] using hcy)
     obtain ⟨x,hx,hbx⟩:=bnds_mem hds hd
     rcases pR hf hbx with ⟨_,h2⟩|h2
     ·exact absurd h2 hno
     ·exact ⟨-x,List.mem_map.2 ⟨x,hx,rfl⟩,h2⟩
    ·cases h
   ·cases h
  ·split at h
   ·split at h
    ·obtain ⟨a,h1,h2⟩:=yI.1 h
     obtain ⟨b,h3,h4⟩:=yI.1 h2
     unfold res at h4
     split at h4
     ·rw [lZ h4]
      have ha:=hcs a (List.mem_of_getElem? h1)
      have hb:=hcs b (List.mem_of_getElem? h3)
      rw [kC] at ha hb ⊢
      obtain ⟨x,hx,hx2⟩:=ha
      obtain ⟨y,hy,hy2⟩:=hb
      by_cases e1:x=s.var+1
      ·by_cases e2:y = -(s.var+1)
       ·subst e1 e2
        have:=holds_one bs _ hx2
        rw [this] at hy2;cases hy2
       ·exact ⟨y,List.mem_append_right _ (yS.2 ⟨hy,by simpa using e2⟩),hy2⟩
      ·exact ⟨x,qP _ (yS.2 ⟨hx,by simpa using e1⟩),hx2⟩
     ·cases h4
    ·cases h
   ·cases h
theorem sF {f:Form} {bs:List Bool} {xs:List Int} (hf:pA f.atoms bs xs) (hc:∀c∈f.clauses,c.any (holds bs)=true) {a cs:List (List Int)} {l:List Stp} {b:Bool} (h:wX f a l=(cs,b)) (ha:∀c∈a,c.any (holds bs)=true):∀c∈cs,c.any (holds bs)=true:=by
 induction l generalizing a with
 | nil=>rw [wX] at h;injection h with h _;rw [←h];exact ha
 | cons s l ih =>
  rw [wX] at h
  cases e:deriv f s a with
  | none=>rw [e] at h;injection h with h _;rw [←h];exact ha
  | some c =>
   rw [e] at h
   refine ih h fun c' hc' => ?_
   rcases zK.1 hc' with hc'|hc'
   ·exact ha c' hc'
   ·simp at hc';subst hc';exact pI hf hc ha e
def s0:Stp:=⟨0,0,[],0,0,0⟩
def ndStep (l:List Stp) (nd:List Bool) (i:Nat):List Bool :=
 if nd.getD i false=true∧(l.getD i s0).kind=3 then (nd.set (l.getD i s0).p.toNat true).set (l.getD i s0).q.toNat true else nd
def ndFrom (l:List Stp):Nat→List Bool
 | 0=>(List.replicate l.length false).set (l.length-1) true
 | j+1=>ndStep l (ndFrom l j) (l.length-1-j)
def nd (l:List Stp):List Bool:=ndFrom l l.length
def fitD (n:Nat) (d:Diff):Prop:=0≤d.x∧d.x<n∧0≤d.y∧d.y<n
set_option maxRecDepth 100000 in
theorem fitc_any (d:Diff) (n g:Nat) (W:World) (hd:fitD n d) (hb:Blk W g 3 #[.int .i64 (n:Int)]) :
  Calls Try.prog 96 #[.agg #[.int .i64 d.x, .int .i64 d.y, .int .i64 d.c], .pointer (some ⟨g,0,none⟩)] W fun e w'=>e = .returned (.bool false)∧Below W.heap.size W w':=by
 obtain ⟨d0,d1,d2,d3⟩:=hd
 have HB:=Lib.hid (((zR W.heap.size W).alloc (Nat.le_refl _) (.cells #[.int .i64 d.x, .int .i64 d.y, .int .i64 d.c] 50)))
 have b0:=(Blk.new W 50 #[.int .i64 d.x, .int .i64 d.y, .int .i64 d.c]).cell 0
 have b1:=(Blk.new W 50 #[.int .i64 d.x, .int .i64 d.y, .int .i64 d.c]).cell 1
 have q0:=(hb.alloc (.cells #[.int .i64 d.x, .int .i64 d.y, .int .i64 d.c] 50)).cell 0
 simp only [zA,zB,zC] at b0 b1 q0
 have y1:decide (d.x<0)=false:=by simp;omega
 have y2:decide (d.x≥(n:Int))=false:=by simp;omega
 have y3:decide (d.y<0)=false:=by simp;omega
 have y4:decide (d.y≥(n:Int))=false:=by simp;omega
 clear hb
 go_enter Try.func96,Try.ntmps96
 go_upto_region 1 with fail
 generalize W.alloc (.cells #[.int .i64 d.x, .int .i64 d.y, .int .i64 d.c] 50)=W1 at *
 go_wp2_with fail
 go_ret
 exact ⟨rfl,HB.out⟩
set_option maxRecDepth 100000 in
theorem idxD_any (v:Value) (l:List Diff) (n g:Nat) (w:World) (hv:Diffs w v l) (hf:∀d∈l,fitD n d) (hb:Blk w g 3 #[.int .i64 (n:Int)]) :
  Calls Try.prog 111 #[v, .func (.func 96) #[] #[.pointer (some ⟨g,0,none⟩)]] w fun e w'=>e = .returned (.int .i64 (-1))∧Below w.heap.size w w':=by
 have HV:=Lib.hid hv
 have HF:=Lib.hid hf
 have HB:=Lib.hid hb
 obtain ⟨A,c,rfl,h1,h2,h3,hr⟩:=hv
 unfold maxLen at h2
 clear h3 hr hb hf
 go_enter Try.func111,Try.ntmps111
 go_wp2_with fail
 go_loopw [5,8] (fun _ i wr=>∃k:Nat,k≤l.length∧i = .int .i64 k∧Below w.heap.size w wr) (fun _ i _=>l.length-(intOf i).toNat)
 case atStart=>exact ⟨0,by omega,rfl,zR _ _⟩
 case round =>
  obtain ⟨k,hk,rfl,hbw⟩:=hrel
  have HBW:=Lib.hid hbw
  clear hbw
  by_cases hlt:k<l.length
  ·obtain ⟨d,hd⟩:∃d,l[k]? = some d:=⟨_,List.getElem?_eq_getElem hlt⟩
   obtain ⟨A',c',hv', -, -, -,hrd⟩:=HV.out.keep HBW.out
   injection hv' with e1 e2 e3
   subst e1 e3
   obtain ⟨b1,o1,rfl,hb1,hx1,hy1,hz1⟩:=hrd.diff hd
   have HC:Hid (Calls Try.prog 96 #[.agg #[.int .i64 d.x, .int .i64 d.y, .int .i64 d.c], .pointer (some ⟨g,0,none⟩)] wr fun e w'=>e = .returned (.bool false)∧Below wr.heap.size wr w'):=Lib.hid (fitc_any d n g wr (HF.out d (List.mem_of_getElem? hd)) (HB.out.keep HBW.out))
   have y1:(k:Int)<(l.length:Int):=by omega
   clear hd hrd
   go_wp2_with fail
   refine HC.out.mono ?_
   rintro e w' ⟨rfl,hb'⟩
   have HB2:=Lib.hid (HBW.out.trans (hb'.mono HBW.out.size))
   clear hb' HC
   go_wp2_with fail
   go_roundw
   case rel=>exact ⟨k+1,by omega,by go_num,HB2.out⟩
   case measure=>simp [intOf];omega
  ·go_wp2_with fail
   go_ret
   exact ⟨rfl,HBW.out⟩
set_option maxRecDepth 100000 in
theorem cntD_any (v:Value) (l:List Diff) (n g:Nat) (w:World) (hv:Diffs w v l) (hf:∀d∈l,fitD n d) (hb:Blk w g 3 #[.int .i64 (n:Int)]) :
  Calls Try.prog 95 #[v, .func (.func 96) #[] #[.pointer (some ⟨g,0,none⟩)]] w fun e w'=>e = .returned (.bool false)∧Below w.heap.size w w':=by
 have HI:=Lib.hid (idxD_any v l n g w hv hf hb)
 obtain ⟨A,c,rfl,h1,h2,h3,hr⟩:=hv
 clear h3 hr h2 hf hb
 go_enter Try.func95,Try.ntmps95
 go_wp2_with fail
 refine HI.out.mono ?_
 rintro e w' ⟨rfl,hb⟩
 have HB:=Lib.hid hb
 clear hb
 go_wp2_with fail
 go_ret
 exact ⟨rfl,HB.out⟩
set_option maxRecDepth 100000 in
theorem fits_any (v:Value) (l:List Diff) (n:Nat) (w:World) (hv:Diffs w v l) (hn:n≤32) (hf:∀d∈l,fitD n d) :
  Calls Try.prog 86 #[.int .i64 (n:Int),v] w fun e w'=>e = .returned (.bool true)∧Below w.heap.size w w':=by
 have HC:=Lib.hid (cntD_any v l n w.heap.size (w.alloc (.cells #[.int .i64 (n:Int)] 3)) (hv.keep ((zR _ _).alloc (Nat.le_refl _) _)) hf (Blk.new w _ _))
 have HB:=Lib.hid (((zR w.heap.size w).alloc (Nat.le_refl _) (.cells #[.int .i64 (n:Int)] 3)))
 have b0:=(Blk.new w 3 #[.int .i64 (n:Int)]).cell 0
 simp only [zA,zB] at b0
 obtain ⟨A,c,rfl,h1,h2,h3,hr⟩:=hv
 have y1:decide ((n:Int)<0)=false:=by simp
 have y2:decide ((n:Int) > 32)=false:=by simp;omega
 have y3:decide (32<n)=false:=by simp [hn]
 have hmf:∀(fn:Fn) (first cap:Array Value) (W:World),(Instr.makeFunc fn first cap).run Try.prog W = .ok (.func fn first cap) W:=fun _ _ _ _=>rfl
 clear h3 hr h2 hf
 go_enter Try.func86,Try.ntmps86
 go_upto_region 1 with fail
 generalize w.alloc (.cells #[.int .i64 (n:Int)] 3)=W1 at *
 go_wp2_with fail
 refine HC.out.mono ?_
 rintro e w' ⟨rfl,hb⟩
 have HB2:=Lib.hid (HB.out.trans (hb.mono HB.out.size))
 clear hb
 go_wp2_with fail
 go_ret
 exact ⟨rfl,HB2.out⟩
end Go.Proofs.Yticieifacalocaa
