/- Derive Clauses BoundR CycleR -/
import Derived.Test.YticieifacalocaaTSC21
namespace Go.Proofs.Yticieifacalocaa
open Go.RowKit
def OkCl (c:List Int):Prop:=Up c∧∀x∈c,x≠0 ∧ -1024≤x∧x≤1024
theorem up_len {l:List Int} {a:Nat} {M:Nat} (h:Up l) (hx:∀x∈l,a<x.natAbs∧x.natAbs≤M):l.length+a≤M∨l=[]:=by
 induction l generalizing a with
 | nil=>exact .inr rfl
 | cons x r ih =>
  left
  obtain ⟨h1,h2⟩:=xC.1 h
  have hx0:=hx x (by simp)
  rcases ih (a:=x.natAbs) h2 (fun y hy=>⟨h1 y hy,(hx y (by simp [hy])).2⟩) with h3|h3
  ·rw [qP];omega
  ·subst h3;simp;omega
theorem OkCl.len {c:List Int} (h:OkCl c):c.length≤1024:=by
 rcases up_len (a:=0) (M:=1024) h.1 (fun x hx=>by have:=h.2 x hx;omega) with h1|h1
 ·omega
 ·subst h1;simp
theorem lI {xs c:List Int} (h:gB xs=some c) (hx:∀x∈xs, -1024≤x∧x≤1024):OkCl c:=by
 have:=gV xs
 rw [h] at this
 obtain ⟨h1,h2,h3⟩:=this
 exact ⟨h1,fun x hx'=>⟨bQ (h3 x ((h2 x).1 hx')),hx x ((h2 x).1 hx')⟩⟩
theorem bound_abs {atoms:List Diff} {x:Int} {d:Diff} (h:bound atoms x=some d):x≠0 ∧ -(atoms.length:Int)≤x∧x≤atoms.length:=by
 unfold bound at h
 split at h
 ·have:=(zG.1 h).1;omega
 ·split at h
  ·obtain ⟨e,he,_⟩:=qW.1 h
   have:=(zG.1 he).1;omega
  ·cases h
theorem iQ {f:Form} {s:Stp} {cs:List (List Int)} {c:List Int} (hv:validF f=0) (hcs:∀c∈cs,OkCl c) (h:deriv f s cs=some c):OkCl c:=by
 obtain ⟨v1,v2,v3,v4,v5,v6,v7,v8⟩:=gY hv
 unfold deriv at h
 split at h
 ·split at h
  ·obtain ⟨a,ha,h2⟩:=yA.1 h
   refine lI h2 fun x hx => ?_
   have:=bB.1 (v8 a (List.mem_of_getElem? ha) x hx)
   omega
  ·cases h
 ·split at h
  ·unfold cyc at h
   split at h
   ·rename_i ds hds
    split at h
    ·refine lI h fun y hy => ?_
     obtain ⟨x,hx,rfl⟩:=List.mem_map.1 hy
     have h2:some (bound f.atoms x)∈(s.lits.map (bound f.atoms)).map some:=List.mem_map.2 ⟨_,List.mem_map.2 ⟨x,hx,rfl⟩,rfl⟩
     rw [bA.1 hds] at h2
     obtain ⟨y,hy,e⟩:=List.mem_map.1 h2
     injection e with e
     obtain ⟨d,_,rfl⟩:=List.mem_map.1 hy
     have:=bound_abs e.symm
     omega
    ·cases h
   ·cases h
  ·split at h
   ·split at h
    ·obtain ⟨a,ha,h2⟩:=yA.1 h
     obtain ⟨b,hb,h3⟩:=yA.1 h2
     unfold res at h3
     split at h3
     ·refine lI h3 fun x hx => ?_
      rcases zK.1 hx with hx|hx
      ·exact ((hcs a (List.mem_of_getElem? ha)).2 x (yO.1 hx).1).2
      ·exact ((hcs b (List.mem_of_getElem? hb)).2 x (yO.1 hx).1).2
     ·cases h3
    ·cases h
   ·cases h
theorem okC_of {f:Form} (hv:validF f=0):OkC f.atoms:=by
 obtain ⟨v1,v2,v3,v4,v5,v6,v7,v8⟩:=gY hv
 intro d hd
 obtain ⟨x,y,z⟩:=d
 obtain ⟨q1,q2,q3,q4,q5,q6,q7⟩:=dT.1 (v7 _ hd)
 refine ⟨⟨⟨?_,?_⟩,⟨?_,?_⟩,⟨?_,?_⟩⟩,q6,q7⟩<;>simp only<;>omega
def Stp.cells (p:Stp × Value):List Value:=[.int .i64 p.1.kind, .int .i64 p.1.index,p.2, .int .i64 p.1.p, .int .i64 p.1.q, .int .i64 p.1.var]
def Stp.val (s:Stp) (lv:Value):Value := .agg #[.int .i64 s.kind, .int .i64 s.index,lv, .int .i64 s.p, .int .i64 s.q, .int .i64 s.var]
def Stp.ok (s:Stp):Prop:=I64 s.kind∧I64 s.index∧I64 s.p∧I64 s.q∧I64 s.var
def Stps (w:World) (v:Value) (l:List Stp):Prop :=
 ∃(A:Option Addr) (c:Nat) (ps:List (Stp × Value)),l=ps.map (·.1)∧v = .slice A ps.length c∧ps.length≤c∧c≤maxLen∧Rd w A (ps.flatMap Stp.cells)∧∀p∈ps,Ints w p.2 p.1.lits∧p.1.ok
theorem Stps.keep {w w':World} {v:Value} {l:List Stp} (h:Stps w v l) (hb:Below w.heap.size w w'):Stps w' v l:=by
 obtain ⟨A,c,ps,h1,h2,h3,h4,h5,h6⟩:=h
 exact ⟨A,c,ps,h1,h2,h3,h4,h5.keep hb,fun p hp=>⟨(h6 p hp).1.keep hb,(h6 p hp).2⟩⟩
theorem flat_get {α β:Type} {xs:List α} {g:α→List β} {m:Nat} (hg:∀a,(g a).length=m) {k r:Nat} {a:α} (h:xs[k]? = some a) (hr:r<m):(xs.flatMap g)[k * m+r]? = (g a)[r]? := by
 induction xs generalizing k with
 | nil=>simp at h
 | cons x t ih =>
  cases k with
  | zero=>simp at h;subst h;rw [xE,vQ,Nat.zero_add,zP (by rw [hg];exact hr)]
  | succ k =>
   rw [xE,zL (by rw [hg,jA];omega),hg,show (k+1) * m+r-m=k * m+r by rw [jA];omega]
   exact ih (by simpa using h)
theorem Stps.at_ {w:World} {A:Option Addr} {ps:List (Stp × Value)} (h:Rd w A (ps.flatMap Stp.cells)) {k:Nat} {p:Stp × Value} (hk:ps[k]? = some p) :
  ∃b off,A=some ⟨b,off,none⟩∧b<w.heap.size∧w.cell? ⟨b,off+k * 6,none⟩=some (.int .i64 p.1.kind)∧w.cell? ⟨b,off+k * 6+1,none⟩=some (.int .i64 p.1.index)∧w.cell? ⟨b,off+k * 6+2,none⟩=some p.2 ∧
   w.cell? ⟨b,off+k * 6+3,none⟩=some (.int .i64 p.1.p)∧w.cell? ⟨b,off+k * 6+4,none⟩=some (.int .i64 p.1.q)∧w.cell? ⟨b,off+k * 6+5,none⟩=some (.int .i64 p.1.var):=by
 have hg:∀r,r<6→(ps.flatMap Stp.cells)[k * 6+r]? = (Stp.cells p)[r]? := fun r hr=>flat_get (g:=Stp.cells) (m:=6) (fun _=>rfl) hk hr
 obtain ⟨b,off,hA,hlt,hc⟩:=h (by have:=(zG.1 ((hg 0 (by omega)).trans (show (Stp.cells p)[0]? = some _ from rfl))).1;omega)
 have hx:∀r u,r<6→(Stp.cells p)[r]? = some u→w.cell? ⟨b,off+k * 6+r,none⟩=some u:=fun r u hr hu=>by
  rw [vY];exact hc _ _ ((hg r hr).trans hu)
 exact ⟨b,off,hA,hlt,hx 0 _ (by omega) rfl,hx 1 _ (by omega) rfl,hx 2 _ (by omega) rfl,hx 3 _ (by omega) rfl,hx 4 _ (by omega) rfl,hx 5 _ (by omega) rfl⟩
theorem ClRet.up {w W w':World} {r r':Option (List Int)} {e:Ending} (h:ClRet W r' e w') (hr:r=r') (hb:Below w.heap.size w W):ClRet w r e w':=by
 obtain ⟨v,he,⟨h1,h2⟩,h3⟩:=h
 subst hr
 exact ⟨v,he,⟨aI h1 hb.size,h2⟩,hb.trans (h3.mono hb.size)⟩
set_option maxRecDepth 100000 in
set_option maxHeartbeats 1000000 in
theorem pderive_any (fv sv ev:Value) (f:Form) (s:Stp) (cs:List (List Int)) (w:World) (hf:IsForm w fv f) (hs:IsStp w sv s) (he:Mat w ev cs) (hv:validF f=0) (hcl:∀c∈f.clauses,c.length≤200000) (hcs:∀c∈cs,OkCl c) (hll:s.lits.length≤1000000) :
  Calls Try.prog 70 #[fv,sv,ev] w (ClRet w (deriv f s cs)):=by
 have HS:=Lib.hid hs
 have HE:=Lib.hid he
 have HV:=Lib.hid hv
 have HCL:=Lib.hid hcl
 have HCS:=Lib.hid hcs
 have HOK:=Lib.hid (okC_of hv)
 have HF:=Lib.hid hf
 obtain ⟨av,cv,rfl,hf1,hf2,hf3,hf4⟩:=hf
 obtain ⟨lv,rfl,hs1,hs2,hs3,hs4,hs5,hs6⟩:=hs
 have HA:=Lib.hid hf3
 have HM:=Lib.hid hf4
 have HLV:=Lib.hid hs1
 obtain ⟨Ac,cc,vs,rfl,m1,m2,m3,m4,m5⟩:=hf4
 obtain ⟨Al,cl,rfl, -, -, -, -⟩:=hs1
 unfold maxLen at m2
 have HM3:=Lib.hid m3
 have HM4:=Lib.hid m4
 have HM5:=Lib.hid m5
 have hal:(f.atoms.length:Int)≤1024:=by have:=gY hv;omega
 clear he hv hcl hcs hf3 m3 m4 m5 hf1 hf2 hs2 hs3 hs4 hs5 hs6
 have B0:=(Blk.new w 29 #[.int .i64 f.ints, .int .i64 f.bools,av, .slice Ac f.clauses.length cc]).alloc (.cells #[.int .i64 s.kind, .int .i64 s.index, .slice Al s.lits.length cl, .int .i64 s.p, .int .i64 s.q, .int .i64 s.var] 91)
 have B1:=Blk.new (w.alloc (.cells #[.int .i64 f.ints, .int .i64 f.bools,av, .slice Ac f.clauses.length cc] 29)) 91 #[.int .i64 s.kind, .int .i64 s.index, .slice Al s.lits.length cl, .int .i64 s.p, .int .i64 s.q, .int .i64 s.var]
 have hbW:Below w.heap.size w ((w.alloc (.cells #[.int .i64 f.ints, .int .i64 f.bools,av, .slice Ac f.clauses.length cc] 29)).alloc (.cells #[.int .i64 s.kind, .int .i64 s.index, .slice Al s.lits.length cl, .int .i64 s.p, .int .i64 s.q, .int .i64 s.var] 91)):=by go_grown
 simp only [xD] at B1
 have q0:=B0.cell 0
 have q1:=B0.cell 1
 have q2:=B0.cell 2
 have q3:=B0.cell 3
 have r0:=B1.cell 0
 have r1:=B1.cell 1
 have r2:=B1.cell 2
 have r3:=B1.cell 3
 have r4:=B1.cell 4
 have r5:=B1.cell 5
 simp only [zA,zB,zC] at q0 q1 q2 q3 r0 r1 r2 r3 r4 r5
 have HBW:=Lib.hid hbW
 clear B0 B1 hbW
 by_cases k1:s.kind=1
 ·have e1:(s.kind == 1)=true:=by simp [k1]
  by_cases i0:s.index<0
  ·have d1:decide (s.index<0)=true:=by simpa using i0
   have HN:Hid (deriv f s cs=none):=by refine Lib.hid ?_;unfold deriv;rw [if_pos k1,if_neg (by omega)]
   clear k1 i0
   go_enter Try.func70,Try.ntmps70
   go_wp2_with fail
   go_ret2
   exact ClRet.no HN.out HBW.out
  have d1:decide (s.index<0)=false:=by simpa using i0
  by_cases i1:(f.clauses.length:Int)≤s.index
  ·have d2:decide ((f.clauses.length:Int)≤s.index)=true:=by simpa using i1
   have HN:Hid (deriv f s cs=none):=by refine Lib.hid ?_;unfold deriv;rw [if_pos k1,if_pos (by omega),List.getElem?_eq_none (by omega)];rfl
   clear k1 i0 i1
   go_enter Try.func70,Try.ntmps70
   go_wp2_with fail
   go_ret2
   exact ClRet.no HN.out HBW.out
  have d2:decide ((f.clauses.length:Int)≤s.index)=false:=by simpa using i1
  obtain ⟨n,hn⟩:∃n:Nat,s.index=n:=⟨s.index.toNat,by omega⟩
  have hnl:n<f.clauses.length:=by omega
  obtain ⟨c,hc⟩:∃c,f.clauses[n]? = some c:=⟨_,List.getElem?_eq_getElem hnl⟩
  obtain ⟨b,off,A1,c1,rfl,hb,hcell,hI⟩:=Mat.at_ (HM4.out.keep HBW.out) HM3.out (fun k u xs a b=>(HM5.out k u xs a b).keep HBW.out) hc
  have HN:Hid (deriv f s cs=gB c):=by refine Lib.hid ?_;unfold deriv;rw [if_pos k1,if_pos (by omega),hn,Int.toNat_natCast,hc];rfl
  have HI:=Lib.hid hI
  have HLE:=Lib.hid (HCL.out c (List.mem_of_getElem? hc))
  rw [hn] at r1 d1 d2 HBW HI hcell ⊢
  clear k1 i0 i1 hn hc hI
  go_enter Try.func70,Try.ntmps70
  go_wp2_with fail
  refine ((cP _ c _ HI.out (by have:=HLE.out;omega)).mono fun e w3 h=>NormRet.cl (w:=w) h HN.out HBW.out).mono ?_
  intro e w3 hcl
  obtain ⟨v,rfl,h5,h6⟩:=hcl
  have H5:=Lib.hid h5
  have H6:=Lib.hid h6
  clear h5 h6
  go_wp2_with fail
  go_ret2
  exact ⟨v,rfl,H5.out,H6.out⟩
 have e1:(s.kind == 1)=false:=by simp [k1]
 by_cases k2:s.kind=2
 ·have e2:(s.kind == 2)=true:=by simp [k2]
  have HN:Hid (deriv f s cs=cyc f.atoms s.lits):=by refine Lib.hid ?_;unfold deriv;rw [if_neg k1,if_pos k2]
  clear k1 k2
  go_enter Try.func70,Try.ntmps70
  go_wp2_with fail
  refine ((pcycle_any _ _ _ _ _ f.atoms s.lits _ (HA.out.keep HBW.out) (HLV.out.keep HBW.out) HOK.out hll (by omega)).mono fun e w3 h=>ClRet.up (w:=w) h HN.out HBW.out).mono ?_
  intro e w3 hcl
  obtain ⟨v,rfl,h5,h6⟩:=hcl
  have H5:=Lib.hid h5
  have H6:=Lib.hid h6
  clear h5 h6
  go_wp2_with fail
  go_ret2
  exact ⟨v,rfl,H5.out,H6.out⟩
 have e2:(s.kind == 2)=false:=by simp [k2]
 by_cases k3:s.kind=3
 ·have e3:(s.kind == 3)=true:=by simp [k3]
  have HN:Hid (deriv f s cs=resE cs s):=by refine Lib.hid ?_;unfold deriv;rw [if_neg k1,if_neg k2,if_pos k3];rfl
  clear k1 k2 k3
  go_enter Try.func70,Try.ntmps70
  go_wp2_with fail
  refine ((rA _ _ s cs _ (HS.out.keep HBW.out) (HE.out.keep HBW.out) (fun c hc=>(HCS.out c hc).1) (fun c hc=>by have:=(HCS.out c hc).len;omega)).mono fun e w3 h=>ClRet.up (w:=w) h HN.out HBW.out).mono ?_
  intro e w3 hcl
  obtain ⟨v,rfl,h5,h6⟩:=hcl
  have H5:=Lib.hid h5
  have H6:=Lib.hid h6
  clear h5 h6
  go_wp2_with fail
  go_ret2
  exact ⟨v,rfl,H5.out,H6.out⟩
 have e3:(s.kind == 3)=false:=by simp [k3]
 have HN:Hid (deriv f s cs=none):=by refine Lib.hid ?_;unfold deriv;rw [if_neg k1,if_neg k2,if_neg k3]
 clear k1 k2 k3
 go_enter Try.func70,Try.ntmps70
 go_wp2_with fail
 go_ret2
 exact ClRet.no HN.out HBW.out
def ClsOk (w:World) (cs:List (List Int)) (v:Value) (w':World):Prop:=∃us,OwnMat w' w.heap.size (fun b=>w.heap.size≤b) v us cs∧Below w.heap.size w w'
def ClsRet (w:World) (r:List (List Int) × Bool) (e:Ending) (w':World):Prop :=
 (r.2=true∧∃v,e = .returned (.tuple #[v, .int .i64 0, .int .i64 0])∧ClsOk w r.1 v w')∨(r.2=false∧e = .returned (.tuple #[.slice none 0 0, .int .i64 (r.1.length:Int), .int .i64 15])∧Below w.heap.size w w')
structure CL (w wr:World) (fv:Array Value) (v:Value) (us:List Value) (cs:List (List Int)):Prop where
 b0:Blk wr w.heap.size 29 fv
 om:OwnMat wr (w.heap.size+1) (fun b=>w.heap.size+1≤b) v us cs
 ok:∀c∈cs,OkCl c
 hi:w.heap.size+1≤wr.heap.size
 bl:Below w.heap.size w wr
section
variable {w wr w' W:World} {fv:Array Value} {v:Value} {us:List Value} {cs:List (List Int)}
theorem CL.keep (h:CL w wr fv v us cs) (hb:Below wr.heap.size wr w'):CL w w' fv v us cs :=
 ⟨h.b0.keep hb,h.om.keep hb,h.ok,qA h.hi hb.size,h.bl.trans (hb.mono h.bl.size)⟩
theorem CL.push {u v':Value} {c:List Int} {o:Obj} (h:CL w W fv v us cs) (hW:∀g,v.ownBlock=some g→g<W.heap.size) (h':CL w w' fv v us cs) (hu:Own w' W.heap.size u c) (hc:OkCl c) (hlo:w.heap.size+1≤W.heap.size)
  {w2:World} (ho:w2.ownsRow (w.heap.size+1) 33 1 v' (us.length+1) (us++[u])) (hg:(w'.alloc o).grownBy w2 v.ownBlock) (hat:v'.ownBlock=v.ownBlock∨v'.ownBlock=some (w'.alloc o).heap.size):CL w w2 fv v' (us++[u]) (cs++[c]):=by
 have hlt:∀g,v.ownBlock=some g→w.heap.size+1≤g:=fun g e=>(h'.om.1.lt g e).1
 refine ⟨(h'.b0.alloc o).grown hg fun e=>by have:=hlt _ e.symm;omega,h'.om.push (hu.intsO fun b hb _ _=>⟨by omega,fun e=>by have:=hW b e.symm;omega⟩) ho hg hat,fun x hx => ?_,?_,?_⟩
 ·rcases zK.1 hx with hx|hx
  ·exact h.ok x hx
  ·rw [zI] at hx;subst hx;exact hc
 ·have:=hg.size;have:=h'.hi;simp at this ⊢;have h3:=hg.size;simp at h3;omega
 ·exact (h'.bl.alloc h'.bl.size o).grown hg (by have:=h'.bl.size;simp;omega) fun g e=>by have:=hlt g e;omega
theorem CL.out (h:CL w wr fv v us cs):ClsOk w cs v wr:=⟨us,⟨aI h.om.1 (by omega),h.om.2.1,fun k u xs a b=>(h.om.2.2 k u xs a b).mono fun b _ hb=>⟨by have:=hb.1;omega,hb.2⟩⟩,h.bl⟩
end
def chk (r:List (List Int) × Bool) (n:Nat):Int × Int :=
 if r.2=true then (if n=0∨(r.1.getD (n-1) [])≠[] then ((n:Int),15) else (0,0)) else ((r.1.length:Int),15)
def ChkRet (w:World) (p:Int × Int) (e:Ending) (w':World):Prop:=e = .returned (.tuple #[.int .i64 p.1, .int .i64 p.2])∧Below w.heap.size w w'
theorem runS_len {f:Form}:∀(l:List Stp) (cs:List (List Int)),(gE f cs l).2=true→(gE f cs l).1.length=cs.length+l.length:=by
 intro l
 induction l with
 | nil=>intro cs _;simp [gE]
 | cons s r ih =>
  intro cs h
  rw [gE] at h ⊢
  cases hd:deriv f s cs with
  | none=>rw [hd] at h;cases h
  | some c =>
   rw [hd] at h
   have:=ih (cs++[c]) h
   rw [this];simp;omega
section
variable (i j:Value) (av cv:Value) (ds:List Diff) (w:World)
theorem sU (hb:Diffs w av ds) :
  Calls Try.prog 33 #[.agg #[i,j,av,cv], .int .i64 0] w fun e w'=>e = .returned (boundVal none)∧Below w.heap.size w w':=by
 obtain ⟨A,c,rfl,h1,h2,h3,hr⟩:=hb
 unfold maxLen at h2
 clear h3 hr
 go_enter Try.func33,Try.ntmps33
 go_wp2
 go_returns
 exact ⟨rfl,by go_grown⟩
theorem rbound_pos (n:Nat) (d:Diff) (hb:Diffs w av ds) (hd:ds[n]? = some d) (hl:n+1≤9223372036854775807) :
  Calls Try.prog 33 #[.agg #[i,j,av,cv], .int .i64 ((n:Int)+1)] w fun e w'=>e = .returned (boundVal (some d))∧Below w.heap.size w w':=by
 obtain ⟨A,c,rfl,h1,h2,h3,hr⟩:=hb
 unfold maxLen at h2
 have hlt:n<ds.length:=(zG.1 hd).1
 obtain ⟨b1,o1,rfl,hb1,hc1,hc2,hc3⟩:=hr.diff hd
 obtain ⟨x,y,z⟩:=d
 clear hd h3 hr
 have hz:(((n:Int)+1) == 0)=false:=by simp;omega
 have hz2:decide ((ds.length:Int)<(n:Int)+1)=false:=by simp;omega
 have hz3:decide ((n:Int)+1 < -(ds.length:Int))=false:=by simp;omega
 go_enter Try.func33,Try.ntmps33
 go_wp2
 go_returns
 exact ⟨rfl,by go_grown⟩
theorem tF (n:Nat) (hb:Diffs w av ds) (hge:ds.length≤n) (hl:n+1≤9223372036854775807) :
  Calls Try.prog 33 #[.agg #[i,j,av,cv], .int .i64 ((n:Int)+1)] w fun e w'=>e = .returned (boundVal none)∧Below w.heap.size w w':=by
 obtain ⟨A,c,rfl,h1,h2,h3,hr⟩:=hb
 unfold maxLen at h2
 clear h3 hr
 have hz:(((n:Int)+1) == 0)=false:=by simp;omega
 have hz2:decide ((ds.length:Int)<(n:Int)+1)=true:=by simp;omega
 go_enter Try.func33,Try.ntmps33
 go_wp2
 go_returns
 exact ⟨rfl,by go_grown⟩
theorem rbound_neg (n:Nat) (d:Diff) (hb:Diffs w av ds) (hd:ds[n]? = some d) (hl:n+1≤9223372036854775808) (hC : -9223372036854775807≤d.c) :
  Calls Try.prog 33 #[.agg #[i,j,av,cv], .int .i64 (-((n:Int)+1))] w fun e w'=>e = .returned (boundVal (some d.opp))∧Below w.heap.size w w':=by
 obtain ⟨A,c,rfl,h1,h2,h3,hr⟩:=hb
 unfold maxLen at h2
 have hlt:n<ds.length:=(zG.1 hd).1
 obtain ⟨b1,o1,rfl,hb1,hc1,hc2,hc3⟩:=hr.diff hd
 obtain ⟨x,y,z⟩:=d
 obtain ⟨k1,k2⟩:=(h3 _ (List.mem_of_getElem? hd)).2.2
 simp only at hC k1 k2
 clear hd h3 hr
 have hz:((-((n:Int)+1)) == 0)=false:=by simp;omega
 have hz2:decide ((ds.length:Int) < -((n:Int)+1))=false:=by simp;omega
 have hz3:decide (-((n:Int)+1) < -(ds.length:Int))=false:=by simp;omega
 go_enter Try.func33,Try.ntmps33
 go_wp2
 go_returns
 exact ⟨rfl,by go_grown⟩
theorem rQ (n:Nat) (hb:Diffs w av ds) (hge:ds.length≤n) (hl:n+1≤9223372036854775808) :
  Calls Try.prog 33 #[.agg #[i,j,av,cv], .int .i64 (-((n:Int)+1))] w fun e w'=>e = .returned (boundVal none)∧Below w.heap.size w w':=by
 obtain ⟨A,c,rfl,h1,h2,h3,hr⟩:=hb
 unfold maxLen at h2
 clear h3 hr
 have hz:((-((n:Int)+1)) == 0)=false:=by simp;omega
 have hz2:decide ((ds.length:Int) < -((n:Int)+1))=false:=by simp;omega
 have hz3:decide (-((n:Int)+1) < -(ds.length:Int))=true:=by simp;omega
 go_enter Try.func33,Try.ntmps33
 go_wp2
 go_returns
 exact ⟨rfl,by go_grown⟩
theorem rbound_any (lit:Int) (hb:Diffs w av ds) (hC:∀d∈ds, -9223372036854775807≤d.c) (hl:I64 lit) :
  Calls Try.prog 33 #[.agg #[i,j,av,cv], .int .i64 lit] w fun e w'=>e = .returned (boundVal (bound ds lit))∧Below w.heap.size w w':=by
 obtain ⟨hl1,hl2⟩:=hl
 rcases aF lit with rfl|⟨n,rfl⟩|⟨n,rfl⟩
 ·exact sU i j av cv ds w hb
 ·rw [eS]
  rcases kB n ds.length with h|h
  ·rw [List.getElem?_eq_getElem h];exact rbound_pos i j av cv ds w n _ hb (List.getElem?_eq_getElem h) (by omega)
  ·rw [List.getElem?_eq_none h];exact tF i j av cv ds w n hb h (by omega)
 ·rw [eX]
  rcases kB n ds.length with h|h
  ·rw [List.getElem?_eq_getElem h];exact rbound_neg i j av cv ds w n _ hb (List.getElem?_eq_getElem h) (by omega) (hC _ (yQ h))
  ·rw [List.getElem?_eq_none h];exact rQ i j av cv ds w n hb h (by omega)
end
set_option maxRecDepth 100000 in
set_option maxHeartbeats 2000000 in
theorem rcycle_any (lv cv:Value) (ds:List Diff) (w:World) (hl:Diffs w lv ds) (hc:Ints w cv (rV ds.length)) (hM:∀d∈ds, -1048577≤d.c∧d.c≤1048577) (hn:ds.length≤1000000) :
  Calls Try.prog 91 #[lv,cv] w (CycRet w (cycB ds)):=by
 obtain ⟨A,c,rfl,h1,h2,h3,hr⟩:=hl
 obtain ⟨A2,c2,rfl,g1,g2,g3,hr2⟩:=hc
 rw [bD] at g1 ⊢
 unfold maxLen at h2 g2
 have HR:=Lib.hid hr
 have HR2:=Lib.hid hr2
 have HM:=Lib.hid hM
 clear h3 hr g3 hr2 hM
 have HC2:Hid (∀k,k<ds.length→∃b2 o2,A2=some ⟨b2,o2,none⟩∧w.cell? ⟨b2,o2+k,none⟩=some (.int .i64 (k:Int))):=by
  intro k hk
  obtain ⟨b2,o2,hA2,hb2,hc2⟩:=HR2.out (by simp [bD];omega)
  exact ⟨b2,o2,hA2,hc2 k _ (by rw [List.getElem?_map,idx_at hk];rfl)⟩
 go_enter Try.func91,Try.ntmps91
 go_wp2_with fail
 go_loopw [5,11] (fun s i wr=>∃(k n:Nat),k≤ds.length∧i = .int .i64 k∧s = .int .i64 (csum (ds.take k))∧aV ds k∧wr=w.drewN n) (fun _ i _=>ds.length-(intOf i).toNat)
 case atStart=>exact ⟨0,0,by omega,rfl,rfl,fun i a b h=>by omega,rfl⟩
 case round =>
  obtain ⟨j,n,hj,rfl,rfl,hlink,rfl⟩:=hrel
  have HLK:=Lib.hid hlink
  have hsb:=nE (M:=1048577) (ds:=ds.take j) fun d hd=>HM.out d (zO hd)
  have hlen:(ds.take j).length≤j:=xK _ _
  have hs1 : -1048577000000≤csum (ds.take j)∧csum (ds.take j)≤1048577000000:=by omega
  obtain ⟨hs1,hs2⟩:=hs1
  clear hlink hsb hlen
  by_cases hjt:j<ds.length
  ·obtain ⟨a,ha⟩:∃x,ds[j]? = some x:=⟨_,List.getElem?_eq_getElem hjt⟩
   have hrl:(j+1) % ds.length<ds.length:=Nat.mod_lt _ (by omega)
   obtain ⟨b,hb⟩:∃x,ds[(j+1) % ds.length]? = some x:=⟨_,List.getElem?_eq_getElem hrl⟩
   obtain ⟨b1,o1,rfl,hb1,hx1,hy1,hz1⟩:=HR.out.diff ha
   obtain ⟨b1',o1',hA',hb1',hx2,hy2,hz2⟩:=HR.out.diff hb
   injection hA' with hA'
   injection hA' with e1 e2
   subst e1 e2
   obtain ⟨b2,o2,rfl,hcell⟩:=HC2.out j hjt
   obtain ⟨b2',o2',hA2',hcell2⟩:=HC2.out _ hrl
   injection hA2' with hA2'
   injection hA2' with e1 e2
   subst e1 e2
   have hca1:=(HM.out a (List.mem_of_getElem? ha)).1
   have hca2:=(HM.out a (List.mem_of_getElem? ha)).2
   have HLS:Hid (a.y=b.x→aV ds (j+1)):=fun e=>lY HLK.out ha hb e
   have HLN:Hid (a.y≠b.x→cycB ds=false):=fun e=>cycB_no ha hb e
   have HCS:=Lib.hid (oV ha)
   generalize hr:(j+1) % ds.length=r at *
   have y1:IntKind.i64.wrap ((j:Int)+1)=(j:Int)+1:=qI _ (by omega)
   have y2:((j:Int)+1).tmod (ds.length:Int)=(r:Int):=by rw [qR (by omega),←hr];simp
   have y2b:((j:Int)+1) % (ds.length:Int)=(r:Int):=by rw [←hr];simp
   have y3:IntKind.i64.wrap (r:Int)=(r:Int):=qI _ (by omega)
   have y4:¬ds.length=0:=by omega
   have d1:decide ((r:Int)<0)=false:=by simp
   have d2:decide ((ds.length:Int)≤(r:Int))=false:=by simp;omega
   clear ha hb hr hb1' hx1 hz2 hy2
   by_cases e:a.y=b.x
   ·have de:(a.y != b.x)=false:=by simp [e]
    have HN:=Lib.hid (HLS.out e)
    have HE:=Lib.hid e
    clear e
    go_wp2_with fail
    go_quiet (fail)
    clear y1 y2 y2b y3 y4
    go_wp2_with fail
    go_roundw
    case rel=>exact ⟨j+1,_,by omega,by go_num,by rw [HCS.out],HN.out,rfl⟩
    case measure=>simp [intOf];omega
   ·have de:(a.y != b.x)=true:=by simp [e]
    have HE:=Lib.hid (HLN.out e)
    clear e
    go_wp2_with fail
    go_quiet (fail)
    clear y1 y2 y2b y3 y4
    go_wp2_with fail
    go_ret
    exact ⟨by rw [HE.out];rfl,cW (cW (zM _ _) _) _⟩
  ·by_cases h0:ds.length=0
   ·have HC:Hid (cycB ds=false):=by
     refine Lib.hid ?_
     unfold cycB;simp only [decide_eq_false_iff_not];rintro ⟨h,_⟩;omega
    have d0:decide ((0:Int)<(ds.length:Int))=false:=by simp;exact qK h0
    have d0':decide (0<ds.length)=false:=by simp;exact qK h0
    clear h0
    go_wp2_with fail
    go_ret
    exact ⟨by rw [HC.out];rfl,cW (zM _ _) _⟩
   ·have HE:=Lib.hid (cycB_yes (by omega) HLK.out (by omega))
    have d0:decide ((0:Int)<(ds.length:Int))=true:=by simp;omega
    have d0':decide (0<ds.length)=true:=by simp;omega
    go_wp2_with fail
    go_ret
    exact ⟨by rw [HE.out];rfl,cW (zM _ _) _⟩
end Go.Proofs.Yticieifacalocaa
