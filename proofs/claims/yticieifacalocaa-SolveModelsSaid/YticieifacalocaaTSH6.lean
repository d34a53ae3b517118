/- Ok Cyclic Resolve Derive Clauses BoundR CycleR -/
import Derived.Test.YticieifacalocaaTSH5
import Derived.Deep.RegionLaw
namespace Go.Proofs.Yticieifacalocaa
open Go.RowKit
def dV (ints:Int) (d:Diff):Bool :=
 decide (0≤d.x) && decide (d.x<ints) && decide (0≤d.y) && decide (d.y<ints) && decide (d.x≠d.y) && decide (-1048576≤d.c) && decide (d.c≤1048576)
def dF (bools lit:Int):Bool:=decide (lit≠0) && decide (-bools≤lit) && decide (lit≤bools)
def bodyOk (f:Form):Bool:=f.atoms.all (dV f.ints) && f.clauses.all fun c=>c.all (dF f.bools)
def okNo (b:Bool):Int:=if b=true then 0 else 1
def validF (f:Form):Int :=
 if 32<f.ints∨1024<f.bools∨32768<f.clauses.length then 2
 else if f.ints<0∨f.bools<0∨f.bools<f.atoms.length then 1
 else okNo (bodyOk f)
theorem aA {f:Form} (h1:¬32<f.ints) (h2:¬1024<f.bools) (h3:¬32768<f.clauses.length) (h4:¬f.ints<0) (h5:¬f.bools<0) (h6:¬f.bools<f.atoms.length) :
  validF f=okNo (bodyOk f):=by
 unfold validF
 rw [if_neg (by omega),if_neg (by omega)]
theorem gQ {ints x y z:Int}:dV ints ⟨x,y,z⟩=true↔0≤x∧x<ints∧0≤y∧y<ints∧x≠y ∧ -1048576≤z∧z≤1048576:=by
 simp [dV,and_assoc]
theorem dH {bools x:Int}:dF bools x=true↔x≠0 ∧ -bools≤x∧x≤bools:=by
 simp [dF,and_assoc]
theorem oH {b:Bool} (h:¬b=true):b=false:=by simpa using h
theorem eY {α:Type} {l:List α} {p:α→Bool} {k:Nat} (h:(l.take k).all p=true) (hk:l.length≤k):l.all p=true:=by
 rwa [zU hk] at h
theorem aZ {f:Form} (h1:f.atoms.all (dV f.ints)=true) (h2:(f.clauses.all fun c=>c.all (dF f.bools))=true):bodyOk f=true:=by
 unfold bodyOk;rw [h1,h2];rfl
theorem fV {f:Form} {k:Nat} {d:Diff} (hd:f.atoms[k]? = some d) (h:dV f.ints d=false):bodyOk f=false:=by
 unfold bodyOk
 rw [uX]
 left
 rw [uF]
 exact ⟨d,List.mem_of_getElem? hd,by simp [h]⟩
theorem iY {f:Form} {k j:Nat} {c:List Int} {x:Int} (hc:f.clauses[k]? = some c) (hx:c[j]? = some x) (h:dF f.bools x=false):bodyOk f=false:=by
 unfold bodyOk
 rw [uX]
 right
 rw [uF]
 exact ⟨c,List.mem_of_getElem? hc,by simp only [Bool.not_eq_true,uF];exact ⟨x,List.mem_of_getElem? hx,by simp [h]⟩⟩
theorem dP {α:Type} {l:List α} {p:α→Bool} {k:Nat} {x:α} (h:(l.take k).all p=true) (hk:l[k]? = some x) (hx:p x=true):(l.take (k+1)).all p=true:=by
 rw [wL hk,List.all_append,h];simp [hx]
theorem dG {f:Form} (h:validF f=0):f.ints≤32∧0≤f.ints∧f.bools≤1024∧0≤f.bools∧(f.atoms.length:Int)≤f.bools∧f.clauses.length≤32768 ∧
  (∀d∈f.atoms,dV f.ints d=true)∧∀c∈f.clauses,∀x∈c,dF f.bools x=true:=by
 unfold validF at h
 split at h
 ·cases h
 ·split at h
  ·cases h
  ·have hb:bodyOk f=true:=by
    cases hb:bodyOk f with
    | true=>rfl
    | false=>rw [hb] at h;cases h
   unfold bodyOk at hb
   simp only [xE,qH] at hb
   exact ⟨by omega,by omega,by omega,by omega,by omega,by omega,hb.1,hb.2⟩
def atomOk (xs:List Int) (bs:List Bool) (j:Nat) (d:Diff):Bool:=bs.getD j false == decide (xs.getD d.x.toNat 0-xs.getD d.y.toNat 0≤d.c)
def SatB (atoms:List Diff) (clauses:List (List Int)) (xs:List Int) (bs:List Bool):Prop :=
 (∀(j:Nat) (d:Diff),atoms[j]? = some d→atomOk xs bs j d=true)∧∀c∈clauses,c.any (holds bs)=true
def Sat (f:Form) (xs:List Int) (bs:List Bool):Prop:=(bs.length:Int)=f.bools∧(xs.length:Int)=f.ints∧SatB f.atoms f.clauses xs bs
def SatRet (w:World) (p:Prop) (e:Ending) (w':World):Prop:=(∃b,e = .returned (.bool b)∧(b=true↔p))∧Below w.heap.size w w'
def Forty (x:Int):Prop := -1099511627776≤x∧x≤1099511627776
theorem nL {α:Type} {l:List α} {k:Nat} {x d:α} (h:l[k]? = some x):l.getD k d=x:=by simp [List.getD,h]
def ClRet (w:World) (r:Option (List Int)) (e:Ending) (w':World):Prop :=
 ∃v,e = .returned (.tuple #[v, .bool r.isSome])∧Own w' w.heap.size v (r.getD [])∧Below w.heap.size w w'
theorem ClRet.no {w w':World} {r:Option (List Int)} (h:r=none) (hb:Below w.heap.size w w'):ClRet w r (.returned (.tuple #[.slice none 0 0, .bool false])) w':=by
 subst h
 exact ⟨_,rfl,⟨qE _ _ _ _,by simp⟩,hb⟩
theorem NormRet.cl {w W w':World} {xs:List Int} {r:Option (List Int)} {e:Ending} (h:NormRet W xs e w') (hr:r=wJ xs) (hb:Below w.heap.size w W):ClRet w r e w':=by
 obtain ⟨v,he,⟨h1,h2⟩,h3⟩:=h
 subst hr
 exact ⟨v,he,⟨aK h1 hb.size,h2⟩,hb.trans (h3.mono hb.size)⟩
def OkC (ds:List Diff):Prop:=∀d∈ds,d.ok ∧ -1048576≤d.c∧d.c≤1048576
theorem bound_ok {atoms:List Diff} (h:OkC atoms) {x:Int} {d:Diff} (hd:bound atoms x=some d):d.ok ∧ -1048577≤d.c∧d.c≤1048577:=by
 unfold bound at hd
 split at hd
 ·obtain ⟨h1,h2,h3⟩:=h d (List.mem_of_getElem? hd);exact ⟨h1,by omega,by omega⟩
 ·split at hd
  ·obtain ⟨e,he,rfl⟩:=qR.1 hd
   obtain ⟨⟨h1,h2,h4⟩,h3⟩:=h e (List.mem_of_getElem? he)
   refine ⟨⟨h2,h1,?_⟩,?_,?_⟩
   ·constructor<;>simp only [Diff.opp]<;>omega
   ·simp only [Diff.opp];omega
   ·simp only [Diff.opp];omega
  ·cases hd
theorem bnds_take {atoms ds:List Diff} {lits:List Int} {k:Nat} (h:(lits.take k).map (bound atoms)=ds.map some) {x:Int} (hx:lits[k]? = some x) {d:Diff} (hd:bound atoms x=some d):(lits.take (k+1)).map (bound atoms)=(ds++[d]).map some:=by
 rw [wL hx,List.map_append,h];simp [hd]
theorem bnds_ok {atoms ds:List Diff} {lits:List Int} (ha:OkC atoms) (h:lits.map (bound atoms)=ds.map some):∀d∈ds,d.ok ∧ -1048577≤d.c∧d.c≤1048577:=by
 intro d hd
 have h1:some d∈lits.map (bound atoms):=by rw [h];exact List.mem_map.2 ⟨d,hd,rfl⟩
 obtain ⟨x,_,hx⟩:=List.mem_map.1 h1
 exact bound_ok ha hx
theorem nC {atoms:List Diff} {x:Int} {d:Diff} (h:bound atoms x=some d):x ≠ -9223372036854775808∨9223372036854775807<(atoms.length:Int):=by
 by_cases e:x = -9223372036854775808
 ·right
  subst e
  unfold bound at h
  rw [if_neg (by omega),if_pos (by omega)] at h
  obtain ⟨e,he,_⟩:=qR.1 h
  have:=(zG.1 he).1
  omega
 ·exact .inl e
theorem neg_i64 {atoms ds:List Diff} {lits:List Int} (h:iF atoms lits=some ds) {x:Int} (hx:x∈lits) (h1:I64 x) (hat:atoms.length≤1000000):I64 (-x):=by
 have h2:some (bound atoms x)∈(lits.map (bound atoms)).map some:=List.mem_map.2 ⟨_,List.mem_map.2 ⟨x,hx,rfl⟩,rfl⟩
 rw [bA.1 h] at h2
 obtain ⟨y,hy,e⟩:=List.mem_map.1 h2
 injection e with e
 obtain ⟨d,_,rfl⟩:=List.mem_map.1 hy
 rcases nC e.symm with h|h
 ·obtain ⟨h3,h4⟩:=h1;constructor<;>omega
 ·omega
def resE (cs:List (List Int)) (s:Stp):Option (List Int) :=
 if 0≤s.p∧0≤s.q then (cs[s.p.toNat]?).bind fun a=>(cs[s.q.toNat]?).bind fun b=>res a b s.var else none
theorem resE_some {cs:List (List Int)} {s:Stp} {P Q:List Int} {p q:Nat} (hp:s.p=(p:Int)) (hq:s.q=(q:Int)) (h1:cs[p]? = some P) (h2:cs[q]? = some Q):resE cs s=res P Q s.var:=by
 unfold resE
 rw [if_pos (by omega),hp,hq]
 simp [h1,h2]
theorem aH {cs:List (List Int)} {s:Stp} (h:s.p<0∨(cs.length:Int)≤s.p∨s.q<0∨(cs.length:Int)≤s.q):resE cs s=none:=by
 unfold resE
 split
 ·rename_i hh
  cases e1:cs[s.p.toNat]? with
  | none=>rfl
  | some a =>
   cases e2:cs[s.q.toNat]? with
   | none=>rfl
   | some b =>
    have:=(zG.1 e1).1
    have:=(zG.1 e2).1
    omega
 ·rfl
def OkCl (c:List Int):Prop:=Up c∧∀x∈c,x≠0 ∧ -1024≤x∧x≤1024
theorem up_len {l:List Int} {a:Nat} {M:Nat} (h:Up l) (hx:∀x∈l,a<x.natAbs∧x.natAbs≤M):l.length+a≤M∨l=[]:=by
 induction l generalizing a with
 | nil=>exact .inr rfl
 | cons x r ih =>
  left
  obtain ⟨h1,h2⟩:=yX.1 h
  have hx0:=hx x (by simp)
  rcases ih (a:=x.natAbs) h2 (fun y hy=>⟨h1 y hy,(hx y (by simp [hy])).2⟩) with h3|h3
  ·rw [qJ];omega
  ·subst h3;simp;omega
theorem OkCl.len {c:List Int} (h:OkCl c):c.length≤1024:=by
 rcases up_len (a:=0) (M:=1024) h.1 (fun x hx=>by have:=h.2 x hx;omega) with h1|h1
 ·omega
 ·subst h1;simp
theorem fM {xs c:List Int} (h:wJ xs=some c) (hx:∀x∈xs, -1024≤x∧x≤1024):OkCl c:=by
 have:=gD xs
 rw [h] at this
 obtain ⟨h1,h2,h3⟩:=this
 exact ⟨h1,fun x hx'=>⟨dT (h3 x ((h2 x).1 hx')),hx x ((h2 x).1 hx')⟩⟩
theorem bound_abs {atoms:List Diff} {x:Int} {d:Diff} (h:bound atoms x=some d):x≠0 ∧ -(atoms.length:Int)≤x∧x≤atoms.length:=by
 unfold bound at h
 split at h
 ·have:=(zG.1 h).1;omega
 ·split at h
  ·obtain ⟨e,he,_⟩:=qR.1 h
   have:=(zG.1 he).1;omega
  ·cases h
theorem lP {f:Form} {s:Stp} {cs:List (List Int)} {c:List Int} (hv:validF f=0) (hcs:∀c∈cs,OkCl c) (h:deriv f s cs=some c):OkCl c:=by
 obtain ⟨v1,v2,v3,v4,v5,v6,v7,v8⟩:=dG hv
 unfold deriv at h
 split at h
 ·split at h
  ·obtain ⟨a,ha,h2⟩:=yI.1 h
   refine fM h2 fun x hx => ?_
   have:=dH.1 (v8 a (List.mem_of_getElem? ha) x hx)
   omega
  ·cases h
 ·split at h
  ·unfold cyc at h
   split at h
   ·rename_i ds hds
    split at h
    ·refine fM h fun y hy => ?_
     obtain ⟨x,hx,rfl⟩:=List.mem_map.1 hy
     have h2:some (bound f.atoms x)∈(s.lits.map (bound f.atoms)).map some:=List.mem_map.2 ⟨_,List.mem_map.2 ⟨x,hx,rfl⟩,rfl⟩
     rw [bA.1 hds] at h2
     obtain ⟨y,hy,e⟩:=List.mem_map.1 h2
     injection e with e
     obtain ⟨d,_,rfl⟩:=List.mem_map.1 hy
     have:=bound_abs e.symm
     omega
    ·cases h
   ·cases h
  ·split at h
   ·split at h
    ·obtain ⟨a,ha,h2⟩:=yI.1 h
     obtain ⟨b,hb,h3⟩:=yI.1 h2
     unfold res at h3
     split at h3
     ·refine fM h3 fun x hx => ?_
      rcases zK.1 hx with hx|hx
      ·exact ((hcs a (List.mem_of_getElem? ha)).2 x (yS.1 hx).1).2
      ·exact ((hcs b (List.mem_of_getElem? hb)).2 x (yS.1 hx).1).2
     ·cases h3
    ·cases h
   ·cases h
theorem okC_of {f:Form} (hv:validF f=0):OkC f.atoms:=by
 obtain ⟨v1,v2,v3,v4,v5,v6,v7,v8⟩:=dG hv
 intro d hd
 obtain ⟨x,y,z⟩:=d
 obtain ⟨q1,q2,q3,q4,q5,q6,q7⟩:=gQ.1 (v7 _ hd)
 refine ⟨⟨⟨?_,?_⟩,⟨?_,?_⟩,⟨?_,?_⟩⟩,q6,q7⟩<;>simp only<;>omega
def Stp.cells (p:Stp × Value):List Value:=[.int .i64 p.1.kind, .int .i64 p.1.index,p.2, .int .i64 p.1.p, .int .i64 p.1.q, .int .i64 p.1.var]
def Stp.ok (s:Stp):Prop:=I64 s.kind∧I64 s.index∧I64 s.p∧I64 s.q∧I64 s.var
def Stps (w:World) (v:Value) (l:List Stp):Prop :=
 ∃(A:Option Addr) (c:Nat) (ps:List (Stp × Value)),l=ps.map (·.1)∧v = .slice A ps.length c∧ps.length≤c∧c≤maxLen∧Rd w A (ps.flatMap Stp.cells)∧∀p∈ps,Ints w p.2 p.1.lits∧p.1.ok
theorem Stps.keep {w w':World} {v:Value} {l:List Stp} (h:Stps w v l) (hb:Below w.heap.size w w'):Stps w' v l:=by
 obtain ⟨A,c,ps,h1,h2,h3,h4,h5,h6⟩:=h
 exact ⟨A,c,ps,h1,h2,h3,h4,h5.keep hb,fun p hp=>⟨(h6 p hp).1.keep hb,(h6 p hp).2⟩⟩
theorem flat_get {α β:Type} {xs:List α} {g:α→List β} {m:Nat} (hg:∀a,(g a).length=m) {k r:Nat} {a:α} (h:xs[k]? = some a) (hr:r<m):(xs.flatMap g)[k * m+r]? = (g a)[r]? := by
 induction xs generalizing k with
 | nil=>simp at h
 | cons x t ih =>
  cases k with
  | zero=>simp at h;subst h;rw [xT,uP,qZ,zO (by rw [hg];exact hr)]
  | succ k =>
   rw [xT,zL (by rw [hg,uO];omega),hg,show (k+1) * m+r-m=k * m+r by rw [uO];omega]
   exact ih (by simpa using h)
theorem Stps.at_ {w:World} {A:Option Addr} {ps:List (Stp × Value)} (h:Rd w A (ps.flatMap Stp.cells)) {k:Nat} {p:Stp × Value} (hk:ps[k]? = some p) :
  ∃b off,A=some ⟨b,off,none⟩∧b<w.heap.size∧w.cell? ⟨b,off+k * 6,none⟩=some (.int .i64 p.1.kind)∧w.cell? ⟨b,off+k * 6+1,none⟩=some (.int .i64 p.1.index)∧w.cell? ⟨b,off+k * 6+2,none⟩=some p.2 ∧
   w.cell? ⟨b,off+k * 6+3,none⟩=some (.int .i64 p.1.p)∧w.cell? ⟨b,off+k * 6+4,none⟩=some (.int .i64 p.1.q)∧w.cell? ⟨b,off+k * 6+5,none⟩=some (.int .i64 p.1.var):=by
 have hg:∀r,r<6→(ps.flatMap Stp.cells)[k * 6+r]? = (Stp.cells p)[r]? := fun r hr=>flat_get (g:=Stp.cells) (m:=6) (fun _=>rfl) hk hr
 obtain ⟨b,off,hA,hlt,hc⟩:=h (by have:=(zG.1 ((hg 0 (by omega)).trans (show (Stp.cells p)[0]? = some _ from rfl))).1;omega)
 have hx:∀r u,r<6→(Stp.cells p)[r]? = some u→w.cell? ⟨b,off+k * 6+r,none⟩=some u:=fun r u hr hu=>by
  rw [jN];exact hc _ _ ((hg r hr).trans hu)
 exact ⟨b,off,hA,hlt,hx 0 _ (by omega) rfl,hx 1 _ (by omega) rfl,hx 2 _ (by omega) rfl,hx 3 _ (by omega) rfl,hx 4 _ (by omega) rfl,hx 5 _ (by omega) rfl⟩
def ClsOk (w:World) (cs:List (List Int)) (v:Value) (w':World):Prop:=∃us,OwnMat w' w.heap.size (fun b=>w.heap.size≤b) v us cs∧Below w.heap.size w w'
structure CL (w wr:World) (fv:Array Value) (v:Value) (us:List Value) (cs:List (List Int)):Prop where
 b0:Blk wr w.heap.size 29 fv
 om:OwnMat wr (w.heap.size+1) (fun b=>w.heap.size+1≤b) v us cs
 ok:∀c∈cs,OkCl c
 hi:w.heap.size+1≤wr.heap.size
 bl:Below w.heap.size w wr
section
variable {w wr w' W:World} {fv:Array Value} {v:Value} {us:List Value} {cs:List (List Int)}
theorem CL.keep (h:CL w wr fv v us cs) (hb:Below wr.heap.size wr w'):CL w w' fv v us cs :=
 ⟨h.b0.keep hb,h.om.keep hb,h.ok,qA h.hi hb.size,h.bl.trans (hb.mono h.bl.size)⟩
theorem CL.push {u v':Value} {c:List Int} {o:Obj} (h:CL w W fv v us cs) (hW:∀g,v.ownBlock=some g→g<W.heap.size) (h':CL w w' fv v us cs) (hu:Own w' W.heap.size u c) (hc:OkCl c) (hlo:w.heap.size+1≤W.heap.size)
  {w2:World} (ho:w2.ownsRow (w.heap.size+1) 33 1 v' (us.length+1) (us++[u])) (hg:(w'.alloc o).grownBy w2 v.ownBlock) (hat:v'.ownBlock=v.ownBlock∨v'.ownBlock=some (w'.alloc o).heap.size):CL w w2 fv v' (us++[u]) (cs++[c]):=by
 have hlt:∀g,v.ownBlock=some g→w.heap.size+1≤g:=fun g e=>(h'.om.1.lt g e).1
 refine ⟨(h'.b0.alloc o).grown hg fun e=>by have:=hlt _ e.symm;omega,h'.om.push (hu.intsO fun b hb _ _=>⟨by omega,fun e=>by have:=hW b e.symm;omega⟩) ho hg hat,fun x hx => ?_,?_,?_⟩
 ·rcases zK.1 hx with hx|hx
  ·exact h.ok x hx
  ·rw [zH] at hx;subst hx;exact hc
 ·have:=hg.size;have:=h'.hi;simp at this ⊢;have h3:=hg.size;simp at h3;omega
 ·exact (h'.bl.alloc h'.bl.size o).grown hg (by have:=h'.bl.size;simp;omega) fun g e=>by have:=hlt g e;omega
theorem CL.out (h:CL w wr fv v us cs):ClsOk w cs v wr:=⟨us,⟨aK h.om.1 (by omega),h.om.2.1,fun k u xs a b=>(h.om.2.2 k u xs a b).mono fun b _ hb=>⟨by have:=hb.1;omega,hb.2⟩⟩,h.bl⟩
end
def chk (r:List (List Int) × Bool) (n:Nat):Int × Int :=
 if r.2=true then (if n=0∨(r.1.getD (n-1) [])≠[] then ((n:Int),15) else (0,0)) else ((r.1.length:Int),15)
def ChkRet (w:World) (p:Int × Int) (e:Ending) (w':World):Prop:=e = .returned (.tuple #[.int .i64 p.1, .int .i64 p.2])∧Below w.heap.size w w'
theorem runS_len {f:Form}:∀(l:List Stp) (cs:List (List Int)),(wX f cs l).2=true→(wX f cs l).1.length=cs.length+l.length:=by
 intro l
 induction l with
 | nil=>intro cs _;simp [wX]
 | cons s r ih =>
  intro cs h
  rw [wX] at h ⊢
  cases hd:deriv f s cs with
  | none=>rw [hd] at h;cases h
  | some c =>
   rw [hd] at h
   have:=ih (cs++[c]) h
   rw [this];simp;omega
section
variable (i j:Value) (av cv:Value) (ds:List Diff) (w:World)
theorem pL (hb:Diffs w av ds) :
  Calls Try.prog 33 #[.agg #[i,j,av,cv], .int .i64 0] w fun e w'=>e = .returned (boundVal none)∧Below w.heap.size w w':=by
 obtain ⟨A,c,rfl,h1,h2,h3,hr⟩:=hb
 unfold maxLen at h2
 clear h3 hr
 go_enter Try.func33,Try.ntmps33
 go_wp2
 go_returns
 exact ⟨rfl,by go_grown⟩
theorem tA (n:Nat) (d:Diff) (hb:Diffs w av ds) (hd:ds[n]? = some d) (hl:n+1≤9223372036854775807) :
  Calls Try.prog 33 #[.agg #[i,j,av,cv], .int .i64 ((n:Int)+1)] w fun e w'=>e = .returned (boundVal (some d))∧Below w.heap.size w w':=by
 obtain ⟨A,c,rfl,h1,h2,h3,hr⟩:=hb
 unfold maxLen at h2
 have hlt:n<ds.length:=(zG.1 hd).1
 obtain ⟨b1,o1,rfl,hb1,hc1,hc2,hc3⟩:=hr.diff hd
 obtain ⟨x,y,z⟩:=d
 clear hd h3 hr
 have hz:(((n:Int)+1) == 0)=false:=by simp;omega
 have hz2:decide ((ds.length:Int)<(n:Int)+1)=false:=by simp;omega
 have hz3:decide ((n:Int)+1 < -(ds.length:Int))=false:=by simp;omega
 go_enter Try.func33,Try.ntmps33
 go_wp2
 go_returns
 exact ⟨rfl,by go_grown⟩
theorem pV (n:Nat) (hb:Diffs w av ds) (hge:ds.length≤n) (hl:n+1≤9223372036854775807) :
  Calls Try.prog 33 #[.agg #[i,j,av,cv], .int .i64 ((n:Int)+1)] w fun e w'=>e = .returned (boundVal none)∧Below w.heap.size w w':=by
 obtain ⟨A,c,rfl,h1,h2,h3,hr⟩:=hb
 unfold maxLen at h2
 clear h3 hr
 have hz:(((n:Int)+1) == 0)=false:=by simp;omega
 have hz2:decide ((ds.length:Int)<(n:Int)+1)=true:=by simp;omega
 go_enter Try.func33,Try.ntmps33
 go_wp2
 go_returns
 exact ⟨rfl,by go_grown⟩
theorem rbound_neg (n:Nat) (d:Diff) (hb:Diffs w av ds) (hd:ds[n]? = some d) (hl:n+1≤9223372036854775808) (hC : -9223372036854775807≤d.c) :
  Calls Try.prog 33 #[.agg #[i,j,av,cv], .int .i64 (-((n:Int)+1))] w fun e w'=>e = .returned (boundVal (some d.opp))∧Below w.heap.size w w':=by
 obtain ⟨A,c,rfl,h1,h2,h3,hr⟩:=hb
 unfold maxLen at h2
 have hlt:n<ds.length:=(zG.1 hd).1
 obtain ⟨b1,o1,rfl,hb1,hc1,hc2,hc3⟩:=hr.diff hd
 obtain ⟨x,y,z⟩:=d
 obtain ⟨k1,k2⟩:=(h3 _ (List.mem_of_getElem? hd)).2.2
 simp only at hC k1 k2
 clear hd h3 hr
 have hz:((-((n:Int)+1)) == 0)=false:=by simp;omega
 have hz2:decide ((ds.length:Int) < -((n:Int)+1))=false:=by simp;omega
 have hz3:decide (-((n:Int)+1) < -(ds.length:Int))=false:=by simp;omega
 go_enter Try.func33,Try.ntmps33
 go_wp2
 go_returns
 exact ⟨rfl,by go_grown⟩
theorem nX (n:Nat) (hb:Diffs w av ds) (hge:ds.length≤n) (hl:n+1≤9223372036854775808) :
  Calls Try.prog 33 #[.agg #[i,j,av,cv], .int .i64 (-((n:Int)+1))] w fun e w'=>e = .returned (boundVal none)∧Below w.heap.size w w':=by
 obtain ⟨A,c,rfl,h1,h2,h3,hr⟩:=hb
 unfold maxLen at h2
 clear h3 hr
 have hz:((-((n:Int)+1)) == 0)=false:=by simp;omega
 have hz2:decide ((ds.length:Int) < -((n:Int)+1))=false:=by simp;omega
 have hz3:decide (-((n:Int)+1) < -(ds.length:Int))=true:=by simp;omega
 go_enter Try.func33,Try.ntmps33
 go_wp2
 go_returns
 exact ⟨rfl,by go_grown⟩
theorem rbound_any (lit:Int) (hb:Diffs w av ds) (hC:∀d∈ds, -9223372036854775807≤d.c) (hl:I64 lit) :
  Calls Try.prog 33 #[.agg #[i,j,av,cv], .int .i64 lit] w fun e w'=>e = .returned (boundVal (bound ds lit))∧Below w.heap.size w w':=by
 obtain ⟨hl1,hl2⟩:=hl
 rcases cA lit with rfl|⟨n,rfl⟩|⟨n,rfl⟩
 ·exact pL i j av cv ds w hb
 ·rw [aI]
  rcases xW n ds.length with h|h
  ·rw [List.getElem?_eq_getElem h];exact tA i j av cv ds w n _ hb (List.getElem?_eq_getElem h) (by omega)
  ·rw [List.getElem?_eq_none h];exact pV i j av cv ds w n hb h (by omega)
 ·rw [aJ]
  rcases xW n ds.length with h|h
  ·rw [List.getElem?_eq_getElem h];exact rbound_neg i j av cv ds w n _ hb (List.getElem?_eq_getElem h) (by omega) (hC _ (xG h))
  ·rw [List.getElem?_eq_none h];exact nX i j av cv ds w n hb h (by omega)
end
set_option maxRecDepth 100000 in
set_option maxHeartbeats 2000000 in
theorem sZ (lv cv:Value) (ds:List Diff) (w:World) (hl:Diffs w lv ds) (hc:Ints w cv (idx ds.length)) (hM:∀d∈ds, -1048577≤d.c∧d.c≤1048577) (hn:ds.length≤1000000) :
  Calls Try.prog 91 #[lv,cv] w (CycRet w (cycB ds)):=by
 obtain ⟨A,c,rfl,h1,h2,h3,hr⟩:=hl
 obtain ⟨A2,c2,rfl,g1,g2,g3,hr2⟩:=hc
 rw [oA] at g1 ⊢
 unfold maxLen at h2 g2
 have HR:=Lib.hid hr
 have HR2:=Lib.hid hr2
 have HM:=Lib.hid hM
 clear h3 hr g3 hr2 hM
 have HC2:Hid (∀k,k<ds.length→∃b2 o2,A2=some ⟨b2,o2,none⟩∧w.cell? ⟨b2,o2+k,none⟩=some (.int .i64 (k:Int))):=by
  intro k hk
  obtain ⟨b2,o2,hA2,hb2,hc2⟩:=HR2.out (by simp [oA];omega)
  exact ⟨b2,o2,hA2,hc2 k _ (by rw [List.getElem?_map,idx_at hk];rfl)⟩
 go_enter Try.func91,Try.ntmps91
 go_wp2_with fail
 go_loopw [5,11] (fun s i wr=>∃(k n:Nat),k≤ds.length∧i = .int .i64 k∧s = .int .i64 (csum (ds.take k))∧hJ ds k∧wr=w.drewN n) (fun _ i _=>ds.length-(intOf i).toNat)
 case atStart=>exact ⟨0,0,by omega,rfl,rfl,fun i a b h=>by omega,rfl⟩
 case round =>
  obtain ⟨j,n,hj,rfl,rfl,hlink,rfl⟩:=hrel
  have HLK:=Lib.hid hlink
  have hsb:=sI (M:=1048577) (ds:=ds.take j) fun d hd=>HM.out d (zN hd)
  have hlen:(ds.take j).length≤j:=vA _ _
  have hs1 : -1048577000000≤csum (ds.take j)∧csum (ds.take j)≤1048577000000:=by omega
  obtain ⟨hs1,hs2⟩:=hs1
  clear hlink hsb hlen
  by_cases hjt:j<ds.length
  ·obtain ⟨a,ha⟩:∃x,ds[j]? = some x:=⟨_,List.getElem?_eq_getElem hjt⟩
   have hrl:(j+1) % ds.length<ds.length:=Nat.mod_lt _ (by omega)
   obtain ⟨b,hb⟩:∃x,ds[(j+1) % ds.length]? = some x:=⟨_,List.getElem?_eq_getElem hrl⟩
   obtain ⟨b1,o1,rfl,hb1,hx1,hy1,hz1⟩:=HR.out.diff ha
   obtain ⟨b1',o1',hA',hb1',hx2,hy2,hz2⟩:=HR.out.diff hb
   injection hA' with hA'
   injection hA' with e1 e2
   subst e1 e2
   obtain ⟨b2,o2,rfl,hcell⟩:=HC2.out j hjt
   obtain ⟨b2',o2',hA2',hcell2⟩:=HC2.out _ hrl
   injection hA2' with hA2'
   injection hA2' with e1 e2
   subst e1 e2
   have hca1:=(HM.out a (List.mem_of_getElem? ha)).1
   have hca2:=(HM.out a (List.mem_of_getElem? ha)).2
   have HLS:Hid (a.y=b.x→hJ ds (j+1)):=fun e=>oX HLK.out ha hb e
   have HLN:Hid (a.y≠b.x→cycB ds=false):=fun e=>cycB_no ha hb e
   have HCS:=Lib.hid (csum_take ha)
   generalize hr:(j+1) % ds.length=r at *
   have y1:IntKind.i64.wrap ((j:Int)+1)=(j:Int)+1:=qN _ (by omega)
   have y2:((j:Int)+1).tmod (ds.length:Int)=(r:Int):=by rw [qK (by omega),←hr];simp
   have y2b:((j:Int)+1) % (ds.length:Int)=(r:Int):=by rw [←hr];simp
   have y3:IntKind.i64.wrap (r:Int)=(r:Int):=qN _ (by omega)
   have y4:¬ds.length=0:=by omega
   have d1:decide ((r:Int)<0)=false:=by simp
   have d2:decide ((ds.length:Int)≤(r:Int))=false:=by simp;omega
   clear ha hb hr hb1' hx1 hz2 hy2
   by_cases e:a.y=b.x
   ·have de:(a.y != b.x)=false:=by simp [e]
    have HN:=Lib.hid (HLS.out e)
    have HE:=Lib.hid e
    clear e
    go_wp2_with fail
    go_quiet (fail)
    clear y1 y2 y2b y3 y4
    go_wp2_with fail
    go_roundw
    case rel=>exact ⟨j+1,_,by omega,by go_num,by rw [HCS.out],HN.out,rfl⟩
    case measure=>simp [intOf];omega
   ·have de:(a.y != b.x)=true:=by simp [e]
    have HE:=Lib.hid (HLN.out e)
    clear e
    go_wp2_with fail
    go_quiet (fail)
    clear y1 y2 y2b y3 y4
    go_wp2_with fail
    go_ret
    exact ⟨by rw [HE.out];rfl,aW (aW (zR _ _) _) _⟩
  ·by_cases h0:ds.length=0
   ·have HC:Hid (cycB ds=false):=by
     refine Lib.hid ?_
     unfold cycB;simp only [decide_eq_false_iff_not];rintro ⟨h,_⟩;omega
    have d0:decide ((0:Int)<(ds.length:Int))=false:=by simp;exact qU h0
    have d0':decide (0<ds.length)=false:=by simp;exact qU h0
    clear h0
    go_wp2_with fail
    go_ret
    exact ⟨by rw [HC.out];rfl,aW (zR _ _) _⟩
   ·have HE:=Lib.hid (cycB_yes (by omega) HLK.out (by omega))
    have d0:decide ((0:Int)<(ds.length:Int))=true:=by simp;omega
    have d0':decide (0<ds.length)=true:=by simp;omega
    go_wp2_with fail
    go_ret
    exact ⟨by rw [HE.out];rfl,aW (zR _ _) _⟩
end Go.Proofs.Yticieifacalocaa
