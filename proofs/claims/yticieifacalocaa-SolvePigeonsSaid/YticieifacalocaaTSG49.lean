/- Fb ClsL -/
import Derived.Test.YticieifacalocaaTSG26
namespace Go.Proofs.Yticieifacalocaa
open Go.RowKit
structure FB (w0 wr:World) (gk X:Nat) (ints bools:Int) (ds:List Diff) (av cv:Value) (us:List Value) (xss:List (List Int)):Prop where
 b:Blk wr gk 29 #[.int .i64 ints, .int .i64 bools,av,cv]
 a:wr.ownsRow (gk+1) 50 3 av ds.length (ds.flatMap Diff.cells)
 m:OwnMat wr (gk+1) (fun b=>(gk<b∧b≠X)∧some b≠av.ownBlock) cv us xss
 ne:av.ownBlock=none∨av.ownBlock≠cv.ownBlock
 d:∀d∈ds,d.ok
 bl:Below gk w0 wr
 ax:av.ownBlock≠some X
 cx:cv.ownBlock≠some X
 x:X<wr.heap.size
section
variable {w0 w1 wr w':World} {gk X n g c j:Nat} {ints bools x:Int} {ds news:List Diff} {av cv av' cv' u:Value} {us nus:List Value} {xss nxss:List (List Int)} {xs:List Int} {o o2:Obj}
theorem FB.start (w:World) (ints bools:Int):FB w (w.alloc (.cells #[.int .i64 ints, .int .i64 bools, .slice none 0 0, .slice none 0 0] 29)) w.heap.size w.heap.size ints bools [] (.slice none 0 0) (.slice none 0 0) [] [] :=
 ⟨Blk.new _ _ _,qG _ _ _ _,OwnMat.nil _ _ _, .inl rfl,by simp,(zN _ _).alloc (Nat.le_refl _) _,by simp [Value.ownBlock],by simp [Value.ownBlock],by simp⟩
theorem FB.drew (h:FB w0 wr gk X ints bools ds av cv us xss):FB w0 wr.drew gk X ints bools ds av cv us xss :=
 ⟨h.b.drew,h.a,h.m.keep (zN _ _).drew,h.ne,h.d,h.bl.drew,h.ax,h.cx,h.x⟩
theorem FB.keep (h:FB w0 wr gk X ints bools ds av cv us xss) (hb:Below wr.heap.size wr w'):FB w0 w' gk X ints bools ds av cv us xss :=
 ⟨h.b.keep hb,dC h.a hb,h.m.keep hb,h.ne,h.d,h.bl.trans (hb.mono (xG h.b.lt)),h.ax,h.cx,zX h.x hb.size⟩
theorem FB.form (h:FB w0 wr gk X ints bools ds av cv us xss) (h1:I64 ints) (h2:I64 bools):IsForm wr (.agg #[.int .i64 ints, .int .i64 bools,av,cv]) ⟨ints,bools,ds,xss⟩ :=
 ⟨av,cv,rfl,h1,h2,cK h.a h.d,h.m.mat⟩
theorem FB.lenC (h:FB w0 wr gk X ints bools ds av cv us xss):us.length=xss.length:=h.m.2.1
theorem FB.setI (h:FB w0 wr gk X ints bools ds av cv us xss) (y:Int):FB w0 (wr.setCell ⟨gk,1,none⟩ (.int .i64 y)) gk X ints y ds av cv us xss :=
 ⟨h.b.set_ 1 _,h.a.kept (jZ _ _ _ _) (cX h.a (by omega)),h.m.grown (jZ _ _ _ _) (cX h.m.1 (by omega)) (fun b hb e=>by have:=hb.1.1;injection e;omega),h.ne,h.d,h.bl.setCell (Nat.le_refl _) _,h.ax,h.cx,by simpa using h.x⟩
theorem FB.box (h:FB w0 wr gk X ints bools ds av cv us xss) (o:Obj):FB w0 (wr.alloc o) gk wr.heap.size ints bools ds av cv us xss:=by
 have k:=h.keep ((zN _ _).alloc (Nat.le_refl wr.heap.size) o)
 refine ⟨k.b,k.a,⟨k.m.1,k.m.2.1,fun j u xs a b=>((h.m.2.2 j u xs a b).mono (Q:=fun b=>((gk<b∧b≠wr.heap.size)∧some b≠av.ownBlock)∧some b≠cv.ownBlock) fun b hb hp=>⟨⟨⟨hp.1.1.1,by omega⟩,hp.1.2⟩,hp.2⟩).keep ((zN _ _).alloc (Nat.le_refl _) o)⟩,k.ne,k.d,k.bl,fun e => ?_,fun e => ?_,by simp⟩
 ·have:=(h.a.lt _ e).2;omega
 ·have:=(h.m.1.lt _ e).2;omega
theorem FB.setX (h:FB w0 wr gk X ints bools ds av cv us xss) (hX:gk<X) (i:Nat) (u:Value):FB w0 (wr.setCell ⟨X,i,none⟩ u) gk X ints bools ds av cv us xss :=
 ⟨h.b.grown (jZ _ _ _ _) (fun e=>by injection e;omega),h.a.kept (jZ _ _ _ _) (.inr h.ax),h.m.grown (jZ _ _ _ _) (.inr h.cx) (fun b hb e=>by have:=hb.1.2;injection e;omega),h.ne,h.d,h.bl.setCell (xG hX) _,h.ax,h.cx,by simpa using h.x⟩
theorem FB.pushA (h:FB w0 wr gk X ints bools ds av cv us xss) (hd:∀d∈news,d.ok) (ho:w'.ownsRow (gk+1) 50 3 av' (ds.length+n) (ds.flatMap Diff.cells++news.flatMap Diff.cells)) (hn:news.length=n)
  (hg:(wr.alloc o).grownBy w' av.ownBlock) (hat:av'.ownBlock=av.ownBlock∨av'.ownBlock=some (wr.alloc o).heap.size) :
  ∃A c,av' = .slice A (ds.length+n) c∧Blk w' gk 29 #[.int .i64 ints, .int .i64 bools,av,cv]∧FB w0 (w'.setCell ⟨gk,2,none⟩ av') gk X ints bools (ds++news) av' cv us xss:=by
 obtain ⟨A,c,rfl, -, -, -⟩:=wD ho
 have hlt:=h.b.lt
 have hb1:Blk w' gk 29 #[.int .i64 ints, .int .i64 bools,av,cv]:=(h.b.alloc o).grown hg (fun e=>by have:=(h.a.lt gk e.symm).1;omega)
 have hal:Below wr.heap.size wr (wr.alloc o):=(zN _ _).alloc (Nat.le_refl _) _
 have hm1:=(h.m.keep hal).mono (Q:=fun b=>((gk<b∧b≠X)∧some b≠av.ownBlock)∧some b≠(Value.slice A (ds.length+n) c).ownBlock) (fun b hb hp=>⟨hp,fun e=>by
  rcases hat with h1|h1
  ·exact hp.2 (e.trans h1)
  ·rw [h1] at e;injection e;omega⟩)
 have hm2:=hm1.grown hg (by
  rcases h.ne with h1|h1
  ·rw [h1];cases cv.ownBlock with|none=>exact .inl rfl|some b=>exact .inr (by simp)
  ·exact .inr (jJ h1)) (fun b hb=>hb.1.2)
 have hm3:=hm2.grown (jZ w' gk 2 (.slice A (ds.length+n) c)) (cX hm2.1 (by omega)) (fun b hb e=>by have:=hb.1.1.1;injection e;omega)
 refine ⟨A,c,rfl,hb1,⟨hb1.set_ 2 _,?_,hm3.mono fun b _ hb=>⟨hb.1.1,hb.2⟩,?_,?_,?_,?_,h.cx,?_⟩⟩
 ·rw [zH,hn,vR]
  exact ho.kept (jZ _ _ _ _) (cX ho (by omega))
 ·rcases hat with h1|h1
  ·rw [h1];exact h.ne
  ·rw [h1]
   right
   intro e
   have:=(h.m.1.lt _ e.symm).2
   simp at this
   omega
 ·intro d hd'
  rcases zL.1 hd' with h1|h1
  ·exact h.d d h1
  ·exact hd d h1
 ·refine Below.setCell ((h.bl.alloc (by omega) _).grown hg (by simp;omega) fun k e => ?_) (Nat.le_refl _) _
  have:=(h.a.lt k e).1
  omega
 ·rcases hat with h1|h1
  ·rw [h1];exact h.ax
  ·rw [h1];have:=h.x;intro e;injection e with e;simp at e;omega
 ·have h1:=hg.size
  have h2:=h.x
  simp at h1 ⊢
  omega
theorem FB.pushC (h:FB w0 wr gk X ints bools ds av cv us xss) (hb:Below wr.heap.size wr w1) (hl:nus.length=nxss.length)
  (hr:∀(j:Nat) (u:Value) (xs:List Int),nus[j]? = some u→nxss[j]? = some xs→IntsO w1 (fun b=>wr.heap.size≤b) u xs)
  (ho:w'.ownsRow (gk+1) 33 1 cv' (us.length+n) (us++nus)) (hn:nus.length=n) (hg:w1.grownBy w' cv.ownBlock) (hat:cv'.ownBlock=cv.ownBlock∨cv'.ownBlock=some w1.heap.size) :
  ∃A c,cv' = .slice A (us.length+n) c∧Blk w' gk 29 #[.int .i64 ints, .int .i64 bools,av,cv]∧FB w0 (w'.setCell ⟨gk,3,none⟩ cv') gk X ints bools ds av cv' (us++nus) (xss++nxss):=by
 obtain ⟨A,c,rfl, -, -, -⟩:=wD ho
 have hlt:=h.b.lt
 have hs:=hb.size
 have hb1:Blk w' gk 29 #[.int .i64 ints, .int .i64 bools,av,cv]:=(h.b.keep hb).grown hg (fun e=>by have:=(h.m.1.lt gk e.symm).1;omega)
 have hcl:∀b,cv.ownBlock=some b→b<wr.heap.size:=fun b e=>(h.m.1.lt b e).2
 have hal:∀b,av.ownBlock=some b→b<wr.heap.size:=fun b e=>(h.a.lt b e).2
 have key:∀{v:Value} {ys:List Int},IntsO w1 (fun b=>((gk<b∧b≠X)∧some b≠av.ownBlock)∧some b≠cv.ownBlock) v ys→IntsO (w'.setCell ⟨gk,3,none⟩ (.slice A (us.length+n) c)) (fun b=>((gk<b∧b≠X)∧some b≠av.ownBlock)∧some b≠(Value.slice A (us.length+n) c).ownBlock) v ys:=by
  intro v ys hv
  refine ((IntsO.mono (Q:=fun b=>(((gk<b∧b≠X)∧some b≠av.ownBlock)∧some b≠cv.ownBlock)∧some b≠(Value.slice A (us.length+n) c).ownBlock) hv fun b hb hp=>⟨hp,fun e => ?_⟩).grown hg fun b hb=>hb.1.2).grown (jZ _ _ _ _) (fun b hb e=>by have:=hb.1.1.1.1;injection e;omega) |>.mono fun b _ hb=>⟨hb.1.1,hb.2⟩
  rcases hat with h1|h1
  ·exact hp.2 (e.trans h1)
  ·rw [h1] at e;injection e;omega
 refine ⟨A,c,rfl,hb1,⟨hb1.set_ 3 _,?_,⟨?_,?_,?_⟩,?_,h.d,?_,h.ax,?_,?_⟩⟩
 ·refine ((dC h.a hb).kept hg ?_).kept (jZ _ _ _ _) (cX h.a (by omega))
  exact h.ne
 ·rw [zH,hn]
  exact ho.kept (jZ _ _ _ _) (cX ho (by omega))
 ·rw [zH,zH,h.lenC,hl]
 ·intro j v ys hv hy
  rw [jC] at hv hy
  rw [←h.lenC] at hy
  split at hv
  ·rename_i hj
   rw [if_pos hj] at hy
   exact key ((h.m.2.2 j v ys hv hy).keep hb)
  ·rename_i hj
   rw [if_neg hj] at hy
   exact key ((hr _ v ys hv hy).mono fun b _ hb=>⟨⟨⟨by omega,by have:=h.x;omega⟩,fun e=>by have:=hal b e.symm;omega⟩,fun e=>by have:=hcl b e.symm;omega⟩)
 ·rcases hat with h1|h1
  ·rw [h1];exact h.ne
  ·rw [h1]
   right
   intro e
   have:=hal _ e
   omega
 ·refine Below.setCell (((h.bl.trans (hb.mono (by omega))).grown hg (by omega) fun k e => ?_)) (Nat.le_refl _) _
  have:=(h.m.1.lt k e).1
  omega
 ·rcases hat with h1|h1
  ·rw [h1];exact h.cx
  ·rw [h1];have:=h.x;intro e;injection e with e;omega
 ·have h1:=hg.size
  have h2:=h.x
  simp
  omega
theorem FB.setC (h:FB w0 wr gk X ints bools ds av (.slice (some ⟨g,0,none⟩) us.length c) us xss) (hb:Below wr.heap.size wr w1) (hu:IntsO w1 (fun b=>wr.heap.size≤b) u xs) (j:Nat) :
  FB w0 (w1.setCell ⟨g,j,none⟩ u) gk X ints bools ds av (.slice (some ⟨g,0,none⟩) us.length c) (us.set j u) (xss.set j xs):=by
 have hs:=hb.size
 have hlt:=h.b.lt
 have h1:=h.keep hb
 have hg:=h.m.1.lt g rfl
 have hal:∀b,av.ownBlock=some b→b<wr.heap.size:=fun b e=>(h.a.lt b e).2
 obtain ⟨hst,hgr⟩:=h1.m.1.stored j u
 have key:∀{v:Value} {ys:List Int},IntsO w1 (fun b=>((gk<b∧b≠X)∧some b≠av.ownBlock)∧some b≠some g) v ys→IntsO (w1.setCell ⟨g,j,none⟩ u) (fun b=>((gk<b∧b≠X)∧some b≠av.ownBlock)∧some b≠(Value.slice (some ⟨g,0,none⟩) us.length c).ownBlock) v ys:=fun hv=>hv.grown hgr fun b hb=>hb.2
 have hne:av.ownBlock=none∨av.ownBlock≠some g:=h.ne
 refine ⟨h1.b.grown hgr (fun e=>by injection e;omega),h1.a.kept hgr hne,⟨?_,?_,?_⟩,h.ne,h.d,?_,h.ax,h.cx,by have:=h.x;simp;omega⟩
 ·rw [qA];exact hst
 ·rw [qA,qA];exact h.lenC
 ·intro i v ys hv hy
  by_cases hi:i=j
  ·subst hi
   rw [kL] at hv hy
   rw [if_pos rfl] at hv hy
   split at hv
   ·rename_i hl
    rw [if_pos (by rw [←h.lenC];exact hl)] at hy
    injection hv with hv
    injection hy with hy
    subst hv hy
    exact key (hu.mono fun b _ hb=>⟨⟨⟨by omega,by have:=h.x;omega⟩,fun e=>by have:=hal b e.symm;omega⟩,fun e=>by injection e;omega⟩)
   ·cases hv
  ·rw [vO (jJ hi)] at hv hy
   exact key (h1.m.2.2 i v ys hv hy)
 ·exact (h.bl.trans (hb.mono (by omega))).setCell (by simp;omega) _
end
structure FR (wr:World) (gk X:Nat) (ds:List Diff) (av cv:Value) (us:List Value) (xss:List (List Int)):Prop where
 a:wr.ownsRow (gk+1) 50 3 av ds.length (ds.flatMap Diff.cells)
 m:OwnMat wr (gk+1) (fun b=>(gk<b∧b≠X)∧some b≠av.ownBlock) cv us xss
 d:∀d∈ds,d.ok
 ax:av.ownBlock≠some X
 cx:cv.ownBlock≠some X
section
variable {w0 wr w':World} {gk X c:Nat} {ints bools:Int} {ds:List Diff} {av cv:Value} {us:List Value} {xss:List (List Int)} {A dp:Option Addr}
theorem FB.rest (h:FB w0 wr gk X ints bools ds av cv us xss):FR wr gk X ds av cv us xss:=⟨h.a,h.m,h.d,h.ax,h.cx⟩
theorem FR.keep (h:FR wr gk X ds av cv us xss) (hb:Below wr.heap.size wr w'):FR w' gk X ds av cv us xss:=⟨dC h.a hb,h.m.keep hb,h.d,h.ax,h.cx⟩
theorem FR.setG (h:FR wr gk X ds av cv us xss) (i:Nat) (u:Value):FR (wr.setCell ⟨gk,i,none⟩ u) gk X ds av cv us xss :=
 ⟨h.a.kept (jZ _ _ _ _) (cX h.a (by omega)),h.m.grown (jZ _ _ _ _) (cX h.m.1 (by omega)) (fun b hb e=>by have:=hb.1.1;injection e;omega),h.d,h.ax,h.cx⟩
theorem FR.setX (h:FR wr gk X ds av cv us xss) (i:Nat) (u:Value):FR (wr.setCell ⟨X,i,none⟩ u) gk X ds av cv us xss :=
 ⟨h.a.kept (jZ _ _ _ _) (.inr h.ax),h.m.grown (jZ _ _ _ _) (.inr h.cx) (fun b hb e=>by have:=hb.1.2;injection e;omega),h.d,h.ax,h.cx⟩
theorem FR.form1 {n:Nat} (h:FR wr gk X ds av (.slice A n c) us xss) (hn:us.length=n) (h0:0<n) (hda:1<n→dp=A.map fun a=>a.add 1) (h1:I64 ints) (h2:I64 bools):IsForm wr (.agg #[.int .i64 ints, .int .i64 bools,av, .slice dp (n-1) (c-1)]) ⟨ints,bools,ds,xss.drop 1⟩:=by
 obtain ⟨A',c',vs,e,hc,hm,hl,hr,hi⟩:=h.m.mat
 have hlx:us.length=xss.length:=h.m.2.1
 injection e with e1 e2 e3
 subst e1 e3
 have hd:(xss.drop 1).length=n-1:=by rw [qQ];omega
 refine ⟨av,_,rfl,h1,h2,cK h.a h.d,dp,c-1,vs.drop 1,by rw [hd],by rw [hd];omega,by omega,by rw [qQ,qQ];omega,fun h0 => ?_,fun k u xs hu hx => ?_⟩
 ·rw [hda (by rw [qQ] at h0;omega)]
  exact hr.drop 1 h0
 ·rw [yJ] at hu hx
  exact hi _ u xs hu hx
end
theorem pJ {w w':World} {A:Option Addr} {us:List Value} {mk:Nat} {t:TypeId} {A1 A2:Option Addr} {n1 c1 n2 c2:Nat} (h:Rd w A us) (hk:Blk w mk t #[.slice A1 n1 c1, .slice A2 n2 c2]) (hu:∀u∈us,∀B n c,u ≠ .slice B n c) (hg:w.grownBy w' (some mk)):Rd w' A us:=by
 intro hn
 obtain ⟨b,off,hA,hlt,hc⟩:=h hn
 have hb:b≠mk:=by
  rintro rfl
  have h0:=hc 0 us[0] (List.getElem?_eq_getElem hn)
  have hm:us[0]∈us:=yY hn
  rw [hk.cell] at h0
  rcases e:off+0 with _|_|m<;>rw [e] at h0<;>simp at h0
  ·exact hu _ hm _ _ _ h0.symm
  ·exact hu _ hm _ _ _ h0.symm
 exact ⟨b,off,hA,zX hlt hg.size,fun j u hj=>(yQ (a:=⟨b,off+j,none⟩) (hg.block b hlt (by simpa using hb))).trans (hc j u hj)⟩
theorem bW (w:World) (xs:List Int) (hx:∀x∈xs,I64 x) (hl:xs.length≤maxLen):IntsO (w.alloc (.cells (xs.map (Value.int .i64)).toArray 3)) (fun b=>w.heap.size≤b) (.slice (some ⟨w.heap.size,0,none⟩) xs.length xs.length) xs :=
 ⟨_,_,rfl,Nat.le_refl _,hl,hx,fun _=>⟨_,0,rfl,by simp,Nat.le_refl _,fun j u hj=>by
  have:=(Blk.new w 3 (xs.map (Value.int .i64)).toArray).cell j
  rw [qY,this,zA]
  exact hj⟩⟩
def oG (f:Form) (l:List Stp):Prop:=validF f=0∧(∀c∈f.clauses,c.length≤200000)∧l.length≤1099511627776∧∀s∈l,s.lits.length≤1000000
set_option maxRecDepth 100000 in
set_option maxHeartbeats 4000000 in
theorem mV (fv lv:Value) (f:Form) (l:List Stp) (w:World) (hf:IsForm w fv f) (hl:Stps w lv l) (hq:oG f l) :
  Calls Try.prog 69 #[fv,lv] w (RClsRet w (wZ f [] l)):=by
 obtain ⟨hv,hcl,hn,hll⟩:=hq
 have HF:=Lib.hid hf
 have HV:=Lib.hid hv
 have HOK:=Lib.hid (okC_of hv)
 have HCL:=Lib.hid hcl
 have HLL:=Lib.hid hll
 obtain ⟨av,cv,rfl, -, -,hf3,hf4⟩:=hf
 have HA:=Lib.hid hf3
 have HM:=Lib.hid hf4
 obtain ⟨Aa,ca,rfl, -, -, -, -⟩:=hf3
 obtain ⟨Ac,cc,vs,rfl,m1,m2,m3,m4,m5⟩:=hf4
 unfold maxLen at m2
 have HM3:=Lib.hid m3
 have HM4:=Lib.hid m4
 have HM5:=Lib.hid m5
 have hal:(f.atoms.length:Int)≤1024:=by have:=gT hv;omega
 obtain ⟨A,c,ps,hps,rfl,l1,l2,l3,l4⟩:=hl
 have hpl:ps.length=l.length:=by rw [hps];simp
 have HPS:=Lib.hid hps
 have HPL:=Lib.hid hpl
 have HR:=Lib.hid l3
 have H4:=Lib.hid l4
 unfold maxLen at l2
 have hpn:ps.length≤1099511627776:=by omega
 clear hv hcl hll hps hpl l3 l4 m3 m4 m5
 obtain ⟨iS,hiS,hzS0,hzS1,hzS2⟩:=qC bZ
 go_enter Try.func69,Try.ntmps69
 go_wp2_with fail
 have hCL:CL w (w.alloc (.cells #[.int .i64 f.ints, .int .i64 f.bools, .slice Aa f.atoms.length ca, .slice Ac f.clauses.length cc] 29)) #[.int .i64 f.ints, .int .i64 f.bools, .slice Aa f.atoms.length ca, .slice Ac f.clauses.length cc] (.slice none 0 0) [] [] :=
  ⟨Blk.new w _ _,OwnMat.nil _ _ _,by simp,by simp,(zN w.heap.size w).alloc (Nat.le_refl _) _⟩
 generalize w.alloc (.cells #[.int .i64 f.ints, .int .i64 f.bools, .slice Aa f.atoms.length ca, .slice Ac f.clauses.length cc] 29)=W0 at *
 have HCL0:=Lib.hid hCL
 clear hCL
 go_loopw [6,13] (fun v i wr=>∃(k:Nat) (us:List Value) (cs:List (List Int)),k≤ps.length∧i = .int .i64 k∧cs.length=k∧wZ f cs (l.drop k)=wZ f [] l∧CL w wr #[.int .i64 f.ints, .int .i64 f.bools, .slice Aa f.atoms.length ca, .slice Ac f.clauses.length cc] v us cs) (fun _ i _=>ps.length-(intOf i).toNat)
 case atStart=>exact ⟨0,[],[],by omega,rfl,rfl,rfl,HCL0.out⟩
 case round =>
  obtain ⟨k,us,cs,hk,rfl,hck,hrun,hcl⟩:=hrel
  have H1:=Lib.hid hcl
  have HCK:=Lib.hid hck
  have HRUN:=Lib.hid hrun
  have hul:us.length=k:=by rw [hcl.om.2.1,hck]
  have HUL:=Lib.hid hul
  obtain ⟨Ax,cx,hx, -, -, -⟩:=wD hcl.om.1
  subst hx
  clear hcl hck hrun hul
  by_cases hlt:k<ps.length
  ·obtain ⟨⟨s,sv⟩,hp⟩:∃p,ps[k]? = some p:=⟨_,List.getElem?_eq_getElem hlt⟩
   obtain ⟨b1,o1,rfl,hb1,t0,t1,t2,t3,t4,t5⟩:=Stps.at_ (HR.out.keep H1.out.bl) hp
   have HP:=Lib.hid (H4.out (s,sv) (List.mem_of_getElem? hp))
   have HLK:Hid (l[k]? = some s):=by refine Lib.hid ?_;rw [HPS.out,List.getElem?_map,hp];rfl
   obtain ⟨As,cs',hsv, -, -, -, -⟩:=HP.out.1
   simp only at hsv t0 t1 t2 t3 t4 t5
   subst hsv
   have HSL:=Lib.hid (HLL.out s (List.mem_of_getElem? HLK.out))
   clear hp
   have HB3:Hid (Below wr.heap.size wr (wr.alloc (.cells #[.int .i64 s.kind, .int .i64 s.index, .slice As s.lits.length cs', .int .i64 s.p, .int .i64 s.q, .int .i64 s.var] 91))):=(zN _ _).alloc (Nat.le_refl _) _
   have H3:=Lib.hid (H1.out.keep HB3.out)
   have z0:=H3.out.b0.cell 0
   have z1:=H3.out.b0.cell 1
   have z2:=H3.out.b0.cell 2
   have z3:=H3.out.b0.cell 3
   simp only [zA,zB,zC] at z0 z1 z2 z3
   have hbs:∀g,(Value.slice Ax us.length cx).ownBlock=some g→g<wr.heap.size:=fun g e=>(H1.out.om.1.lt g e).2
   have HBS:=Lib.hid hbs
   have HSW:Hid ((wr.alloc (.cells #[.int .i64 s.kind, .int .i64 s.index, .slice As s.lits.length cs', .int .i64 s.p, .int .i64 s.q, .int .i64 s.var] 91)).heap.size=wr.heap.size+1):=by refine Lib.hid ?_;simp
   clear hbs
   by_cases k1:s.kind=1
   ·have e1:(s.kind == 1)=true:=by simp [k1]
    by_cases i0:0≤s.index
    ·have d1:decide (0≤s.index)=true:=by simpa using i0
     by_cases i1:s.index<(f.clauses.length:Int)
     ·have d2:decide (s.index<(f.clauses.length:Int))=true:=by simpa using i1
      obtain ⟨n,hn⟩:∃n:Nat,s.index=n:=⟨s.index.toNat,by omega⟩
      have hnl:n<f.clauses.length:=by omega
      obtain ⟨x,hx⟩:∃c,f.clauses[n]? = some c:=⟨_,List.getElem?_eq_getElem hnl⟩
      obtain ⟨b,off,A1,c1,rfl,hb,hcell,hI⟩:=Mat.at_ (HM4.out.keep H3.out.bl) HM3.out (fun k u xs a b=>(HM5.out k u xs a b).keep H3.out.bl) hx
      have HDV:Hid (deriv f s cs=wL x):=by refine Lib.hid ?_;unfold deriv;rw [if_pos k1,if_pos (by omega),hn,Int.toNat_natCast,hx];rfl
      have HI:=Lib.hid hI
      have HLE:=Lib.hid (HCL.out x (List.mem_of_getElem? hx))
      rw [hn] at t1 d1 d2 hcell HI H3 HSW z0 z1 z2 z3
      clear k1 i0 i1 hx hI
      go_wp2_with fail
      generalize (wr.alloc (.cells #[.int .i64 s.kind, .int .i64 (n:Int), .slice As s.lits.length cs', .int .i64 s.p, .int .i64 s.q, .int .i64 s.var] 91))=W3 at *
      clear z0 z1 z2 z3 t0 t1 t2 t3 t4 t5 hcell
      refine (aC _ x _ HI.out (by have:=HLE.out;omega)).mono ?_
      rintro e w4 ⟨v,rfl,h5,h6⟩
      have H5:=Lib.hid h5
      have H6:=Lib.hid (H3.out.keep h6)
      clear h5 h6
      cases hd:wL x with
      | none =>
       have HN:Hid (wZ f [] l=(cs,false)):=by
        refine Lib.hid ?_
        rw [←HRUN.out];exact gU HLK.out (HDV.out.trans hd)
       clear hd
       simp only [kY]
       go_wp2_with fail
       go_ret2
       exact .inr ⟨by rw [HN.out],by rw [HN.out,HCK.out];rfl,H6.out.bl⟩
      | some d =>
       have HN:Hid (wZ f (cs++[d]) (l.drop (k+1))=wZ f [] l):=by
        refine Lib.hid ?_
        rw [←HRUN.out];exact fT HLK.out (HDV.out.trans hd)
       have HOC:=Lib.hid (lY HV.out H3.out.ok (HDV.out.trans hd))
       rw [hd] at H5
       simp only [kB,kZ] at H5 ⊢
       obtain ⟨Ad,cd,hdv, -, -, -⟩:=wD H5.out.1
       subst hdv
       clear hd
       go_wp2_with (at_builtin;refine zW _ rfl _ _ 27 rfl (w.heap.size+1) 33 iS (.slice none 0 0) 1 24 Try.underlying27 hiS hzS0 hzS1 hzS2 rfl (by decide) _ _ _ rfl (H6.out.om.1.alloc _) ⟨w4.heap.size,0,none⟩ 1 1 [.slice Ad d.length cd] rfl rfl (wY w4 _ _) ?b2 ?b3 ?b4 ?b5 ?_)
       case b2=>first|rfl|(intro u hu;simp at hu;subst hu;rfl)
       case b3=>have:=HUL.out;unfold maxLen;omega
       case b4=>have:=HUL.out;omega
       case b5=>have:=H6.out.hi;first|omega|(simp;omega)
       intro v' w5 hown' hgrow _ hat
       have H7:=Lib.hid (H3.out.push (fun g e=>by have:=HBS.out g e;have:=HSW.out;omega) H6.out H5.out HOC.out H3.out.hi hown' hgrow (by simpa using hat))
       obtain ⟨Ap,cp,hvp, -, -, -⟩:=wD hown'
       subst hvp
       clear hown' hgrow hat
       go_wp2_with fail
       go_roundw
       case rel=>exact ⟨k+1,us++[.slice Ad d.length cd],cs++[d],by omega,by go_num,by simp [HCK.out],HN.out,H7.out⟩
       case measure=>simp [intOf];omega
     ·have d2:decide (s.index<(f.clauses.length:Int))=false:=by simp;omega
      have HN:Hid (wZ f [] l=(cs,false)):=by
       refine Lib.hid ?_
       rw [←HRUN.out];exact gU HLK.out (by unfold deriv;rw [if_pos k1,if_pos i0,List.getElem?_eq_none (by omega)];rfl)
      clear k1 i0 i1
      go_wp2_with fail
      go_ret2
      exact .inr ⟨by rw [HN.out],by rw [HN.out,HCK.out];rfl,H3.out.bl⟩
    ·have d1:decide (0≤s.index)=false:=by simp;omega
     have HN:Hid (wZ f [] l=(cs,false)):=by
      refine Lib.hid ?_
      rw [←HRUN.out];exact gU HLK.out (by unfold deriv;rw [if_pos k1,if_neg i0])
     clear k1 i0
     go_wp2_with fail
     go_ret2
     exact .inr ⟨by rw [HN.out],by rw [HN.out,HCK.out];rfl,H3.out.bl⟩
   have e1:(s.kind == 1)=false:=by simp [k1]
   by_cases k2:s.kind=2
   ·have e2:(s.kind == 2)=true:=by simp [k2]
    have HDV:Hid (deriv f s cs=cyc f.atoms s.lits):=by refine Lib.hid ?_;unfold deriv;rw [if_neg k1,if_pos k2]
    clear k1 k2
    go_wp2_with fail
    generalize (wr.alloc (.cells #[.int .i64 s.kind, .int .i64 s.index, .slice As s.lits.length cs', .int .i64 s.p, .int .i64 s.q, .int .i64 s.var] 91))=W3 at *
    clear z0 z1 z2 z3 t0 t1 t2 t3 t4 t5
    refine (sF _ _ _ _ _ f.atoms s.lits _ (HA.out.keep H3.out.bl) (HP.out.1.keep H3.out.bl) HOK.out HSL.out (by omega)).mono ?_
    rintro e w4 ⟨v,rfl,h5,h6⟩
    have H5:=Lib.hid h5
    have H6:=Lib.hid (H3.out.keep h6)
    clear h5 h6
    cases hd:cyc f.atoms s.lits with
    | none =>
     have HN:Hid (wZ f [] l=(cs,false)):=by
      refine Lib.hid ?_
      rw [←HRUN.out];exact gU HLK.out (HDV.out.trans hd)
     clear hd
     simp only [kY]
     go_wp2_with fail
     go_ret2
     exact .inr ⟨by rw [HN.out],by rw [HN.out,HCK.out];rfl,H6.out.bl⟩
    | some d =>
     have HN:Hid (wZ f (cs++[d]) (l.drop (k+1))=wZ f [] l):=by
      refine Lib.hid ?_
      rw [←HRUN.out];exact fT HLK.out (HDV.out.trans hd)
     have HOC:=Lib.hid (lY HV.out H3.out.ok (HDV.out.trans hd))
     rw [hd] at H5
     simp only [kB,kZ] at H5 ⊢
     obtain ⟨Ad,cd,hdv, -, -, -⟩:=wD H5.out.1
     subst hdv
     clear hd
     go_wp2_with (at_builtin;refine zW _ rfl _ _ 27 rfl (w.heap.size+1) 33 iS (.slice none 0 0) 1 24 Try.underlying27 hiS hzS0 hzS1 hzS2 rfl (by decide) _ _ _ rfl (H6.out.om.1.alloc _) ⟨w4.heap.size,0,none⟩ 1 1 [.slice Ad d.length cd] rfl rfl (wY w4 _ _) ?c2 ?c3 ?c4 ?c5 ?_)
     case c2=>first|rfl|(intro u hu;simp at hu;subst hu;rfl)
     case c3=>have:=HUL.out;unfold maxLen;omega
     case c4=>have:=HUL.out;omega
     case c5=>have:=H6.out.hi;first|omega|(simp;omega)
     intro v' w5 hown' hgrow _ hat
     have H7:=Lib.hid (H3.out.push (fun g e=>by have:=HBS.out g e;have:=HSW.out;omega) H6.out H5.out HOC.out H3.out.hi hown' hgrow (by simpa using hat))
     obtain ⟨Ap,cp,hvp, -, -, -⟩:=wD hown'
     subst hvp
     clear hown' hgrow hat
     go_wp2_with fail
     go_roundw
     case rel=>exact ⟨k+1,us++[.slice Ad d.length cd],cs++[d],by omega,by go_num,by simp [HCK.out],HN.out,H7.out⟩
     case measure=>simp [intOf];omega
   have e2:(s.kind == 2)=false:=by simp [k2]
   by_cases k3:s.kind=3
   ·have e3:(s.kind == 3)=true:=by simp [k3]
    have HDV:Hid (deriv f s cs=resE cs s):=by refine Lib.hid ?_;unfold deriv;rw [if_neg k1,if_neg k2,if_pos k3];rfl
    clear k1 k2 k3
    by_cases p0:0≤s.p
    ·have d1:decide (0≤s.p)=true:=by simpa using p0
     by_cases p1:s.p<(k:Int)
     ·have d2:decide (s.p<(k:Int))=true:=by simpa using p1
      by_cases q0:0≤s.q
      ·have d3:decide (0≤s.q)=true:=by simpa using q0
       by_cases q1:s.q<(k:Int)
       ·have d4:decide (s.q<(k:Int))=true:=by simpa using q1
        obtain ⟨p,hp⟩:∃n:Nat,s.p=n:=⟨s.p.toNat,by omega⟩
        obtain ⟨q,hq⟩:∃n:Nat,s.q=n:=⟨s.q.toNat,by omega⟩
        obtain ⟨P,hP⟩:∃c,cs[p]? = some c:=⟨_,List.getElem?_eq_getElem (by have:=HCK.out;omega)⟩
        obtain ⟨Q,hQ⟩:∃c,cs[q]? = some c:=⟨_,List.getElem?_eq_getElem (by have:=HCK.out;omega)⟩
        obtain ⟨A',c',vs',hv', -, -,g3,g4,g5⟩:=H3.out.om.mat
        injection hv' with x1 x2 x3
        subst x1 x3
        obtain ⟨b,off,A1,c1,hAb,hb,hcellP,hIP⟩:=Mat.at_ g4 g3 g5 hP
        obtain ⟨b',off',A2,c2,hAb',hb',hcellQ,hIQ⟩:=Mat.at_ g4 g3 g5 hQ
        subst hAb
        injection hAb' with y
        injection y with y1 y2
        subst y1 y2
        have HRE:=Lib.hid (resE_some (s:=s) hp hq hP hQ)
        have HIP:=Lib.hid hIP
        have HIQ:=Lib.hid hIQ
        have HLP:=Lib.hid (H3.out.ok P (List.mem_of_getElem? hP)).len
        have HLQ:=Lib.hid (H3.out.ok Q (List.mem_of_getElem? hQ)).len
        have hpk:p<k:=by omega
        have hqk:q<k:=by omega
        have hpu:p<us.length:=by have:=HUL.out;omega
        have hqu:q<us.length:=by have:=HUL.out;omega
        rw [hp] at t3 d1 d2 H3 HSW z0 z1 z2 z3 HIP HIQ hcellP hcellQ hb hb'
        rw [hq] at t4 d3 d4 H3 HSW z0 z1 z2 z3 HIP HIQ hcellP hcellQ hb hb'
        clear p0 p1 q0 q1 hP hQ hIP hIQ g3 g4 g5 x2
        go_wp2_with fail
        have B1:=Blk.new wr 91 #[.int .i64 s.kind, .int .i64 s.index, .slice As s.lits.length cs', .int .i64 (p:Int), .int .i64 (q:Int), .int .i64 s.var]
        generalize (wr.alloc (.cells #[.int .i64 s.kind, .int .i64 s.index, .slice As s.lits.length cs', .int .i64 (p:Int), .int .i64 (q:Int), .int .i64 s.var] 91))=W3 at *
        have r3:=B1.cell 3
        have r4:=B1.cell 4
        have r5:=B1.cell 5
        simp only [zA,zB,zC] at r3 r4 r5
        have hlt1:=B1.lt
        have HSOF:Hid (∀w',Below W3.heap.size W3 w'→w'.cell? ⟨wr.heap.size,3,none⟩=some (.int .i64 (p:Int))∧w'.cell? ⟨wr.heap.size,4,none⟩=some (.int .i64 (q:Int))∧w'.cell? ⟨wr.heap.size,5,none⟩=some (.int .i64 s.var)∧w'.cell? ⟨b,off+p,none⟩=some (.slice A1 P.length c1)∧w'.cell? ⟨b,off+q,none⟩=some (.slice A2 Q.length c2)) :=
         fun w' h=>⟨(h.cell (p:=⟨wr.heap.size,3,none⟩) hlt1).trans r3,(h.cell (p:=⟨wr.heap.size,4,none⟩) hlt1).trans r4,(h.cell (p:=⟨wr.heap.size,5,none⟩) hlt1).trans r5,(h.cell (p:=⟨b,off+p,none⟩) hb).trans hcellP,(h.cell (p:=⟨b,off+q,none⟩) hb).trans hcellQ⟩
        clear z0 z1 z2 z3 t0 t1 t2 t3 t4 t5 hcellP hcellQ r3 r4 r5 B1 e1 e2 e3 d1 d2 d3 d4 hp hq
        go_region_held3 (fun w'=>w'.cell? ⟨wr.heap.size,3,none⟩=some (.int .i64 (p:Int))∧w'.cell? ⟨wr.heap.size,4,none⟩=some (.int .i64 (q:Int))∧w'.cell? ⟨wr.heap.size,5,none⟩=some (.int .i64 s.var)∧w'.cell? ⟨b,off+p,none⟩=some (.slice A1 P.length c1)∧w'.cell? ⟨b,off+q,none⟩=some (.slice A2 Q.length c2)) (first|assumption|exact HSOF.out _ (zN _ _).drew) (first
         | (go_at_call 53;refine (lS _ _ P Q s.var _ (HIP.out.keep (zN _ _).drew) (HIQ.out.keep (zN _ _).drew) (by have:=HLP.out;omega) (by have:=HLQ.out;omega)).mono ?_;rintro e w4 ⟨v,rfl,h5,h6⟩;have hs4:=HSOF.out w4 (jT (zN _ _).drew h6)))
        have h5:Own w4 W3.heap.size v ((resE cs s).getD []):=by rw [HRE.out];exact h5
        rw [←HRE.out]
        have h6:Below W3.heap.size W3 w4:=jT (zN _ _).drew h6
        clear hs4
        have H5:=Lib.hid h5
        have H6:=Lib.hid (H3.out.keep h6)
        clear h5 h6
        cases hd:resE cs s with
        | none =>
         have HN:Hid (wZ f [] l=(cs,false)):=by
          refine Lib.hid ?_
          rw [←HRUN.out];exact gU HLK.out (HDV.out.trans hd)
         clear hd
         simp only [kY]
         go_wp2_with fail
         go_ret2
         exact .inr ⟨by rw [HN.out],by rw [HN.out,HCK.out];rfl,H6.out.bl⟩
        | some d =>
         have HN:Hid (wZ f (cs++[d]) (l.drop (k+1))=wZ f [] l):=by
          refine Lib.hid ?_
          rw [←HRUN.out];exact fT HLK.out (HDV.out.trans hd)
         have HOC:=Lib.hid (lY HV.out H3.out.ok (HDV.out.trans hd))
         rw [hd] at H5
         simp only [kB,kZ] at H5 ⊢
         obtain ⟨Ad,cd,hdv, -, -, -⟩:=wD H5.out.1
         subst hdv
         clear hd
         go_wp2_with (at_builtin;refine zW _ rfl _ _ 27 rfl (w.heap.size+1) 33 iS (.slice none 0 0) 1 24 Try.underlying27 hiS hzS0 hzS1 hzS2 rfl (by decide) _ _ _ rfl (H6.out.om.1.alloc _) ⟨w4.heap.size,0,none⟩ 1 1 [.slice Ad d.length cd] rfl rfl (wY w4 _ _) ?d2 ?d3 ?d4 ?d5 ?_)
         case d2=>first|rfl|(intro u hu;simp at hu;subst hu;rfl)
         case d3=>have:=HUL.out;unfold maxLen;omega
         case d4=>have:=HUL.out;omega
         case d5=>have:=H6.out.hi;first|omega|(simp;omega)
         intro v' w5 hown' hgrow _ hat
         have H7:=Lib.hid (H3.out.push (fun g e=>by have:=HBS.out g e;have:=HSW.out;omega) H6.out H5.out HOC.out H3.out.hi hown' hgrow (by simpa using hat))
         obtain ⟨Ap,cp,hvp, -, -, -⟩:=wD hown'
         subst hvp
         clear hown' hgrow hat
         go_wp2_with fail
         go_roundw
         case rel=>exact ⟨k+1,us++[.slice Ad d.length cd],cs++[d],by omega,by go_num,by simp [HCK.out],HN.out,H7.out⟩
         case measure=>simp [intOf];omega
       ·have d4:decide (s.q<(k:Int))=false:=by simp;omega
        have HN:Hid (wZ f [] l=(cs,false)):=by
         refine Lib.hid ?_
         rw [←HRUN.out];exact gU HLK.out (HDV.out.trans (aS (by have:=HCK.out;omega)))
        clear p0 p1 q0 q1
        go_wp2_with fail
        go_ret2
        exact .inr ⟨by rw [HN.out],by rw [HN.out,HCK.out];rfl,H3.out.bl⟩
      ·have d3:decide (0≤s.q)=false:=by simp;omega
       have HN:Hid (wZ f [] l=(cs,false)):=by
        refine Lib.hid ?_
        rw [←HRUN.out];exact gU HLK.out (HDV.out.trans (aS (by have:=HCK.out;omega)))
       clear p0 p1 q0
       go_wp2_with fail
       go_ret2
       exact .inr ⟨by rw [HN.out],by rw [HN.out,HCK.out];rfl,H3.out.bl⟩
     ·have d2:decide (s.p<(k:Int))=false:=by simp;omega
      have HN:Hid (wZ f [] l=(cs,false)):=by
       refine Lib.hid ?_
       rw [←HRUN.out];exact gU HLK.out (HDV.out.trans (aS (by have:=HCK.out;omega)))
      clear p0 p1
      go_wp2_with fail
      go_ret2
      exact .inr ⟨by rw [HN.out],by rw [HN.out,HCK.out];rfl,H3.out.bl⟩
    ·have d1:decide (0≤s.p)=false:=by simp;omega
     have HN:Hid (wZ f [] l=(cs,false)):=by
      refine Lib.hid ?_
      rw [←HRUN.out];exact gU HLK.out (HDV.out.trans (aS (by have:=HCK.out;omega)))
     clear p0
     go_wp2_with fail
     go_ret2
     exact .inr ⟨by rw [HN.out],by rw [HN.out,HCK.out];rfl,H3.out.bl⟩
   have e3:(s.kind == 3)=false:=by simp [k3]
   have HN:Hid (wZ f [] l=(cs,false)):=by
    refine Lib.hid ?_
    rw [←HRUN.out];exact gU HLK.out (by unfold deriv;rw [if_neg k1,if_neg k2,if_neg k3])
   clear k1 k2 k3
   go_wp2_with fail
   go_ret2
   exact .inr ⟨by rw [HN.out],by rw [HN.out,HCK.out];rfl,H3.out.bl⟩
  ·have HN:Hid (wZ f [] l=(cs,true)):=by refine Lib.hid ?_;rw [←HRUN.out];exact runS_end (by have:=HPL.out;omega)
   go_wp2_with fail
   go_ret2
   exact .inl ⟨by rw [HN.out],_,rfl,by rw [HN.out];exact H1.out.out⟩
end Go.Proofs.Yticieifacalocaa
