/- ProbO -/
import Derived.Test.YticieifacalocaaTSH53
namespace Go.Proofs.Yticieifacalocaa
open Go.RowKit
def pZ (w:World) (a b c:Int) (e:Ending) (w':World):Prop:=∃av cv us f,e = .returned (.agg #[.int .i64 f.ints, .int .i64 f.bools,av,cv])∧FR w' (w.heap.size+3) w.heap.size f.atoms av cv us f.clauses∧SmallF a b c f∧Below w.heap.size w w'
theorem nA {w wo W:World} {a b c:Int} {nv lv:Value} {ints bools:Int} {av cv:Value} {at_ B:Nat} {ds:List Diff} {us:List Value} {xss:List (List Int)} (h2:F2 w wo a b c nv lv ints bools av cv at_ ds B) (hm:OwnMat wo B (fun b=>B≤b) cv us xss)
  (hx:xss.length≤40) (hcl:∀xs∈xss,okCl bools xs) (hd:∀d∈ds,dV ints d=true ∧ -4≤d.c∧d.c≤2) (e1:2+a % 5=ints) (e2:(ds.length:Int)=1+b % 12) (e3:(ds.length:Int)+c % 7=bools) (hg:wo.grownBy W (some (w.heap.size+1))) :
  pZ w a b c (.returned (.agg #[.int .i64 ints, .int .i64 bools,av,cv])) W:=by
 have lo:=h2.lo
 have hI1:I64 ints:=by constructor<;>omega
 have hI2:I64 bools:=by constructor<;>omega
 have hd1:∀d∈ds,d.ok:=fun d hdm=>by
  obtain ⟨x,y,z⟩:=d
  obtain ⟨q1,q2,q3,q4,q5,q6,q7⟩:=gQ.1 (hd _ hdm).1
  refine ⟨⟨?_,?_⟩,⟨?_,?_⟩,⟨?_,?_⟩⟩<;>simp only<;>omega
 have ho:W.ownsRow (w.heap.size+4) 50 3 av ds.length (ds.flatMap Diff.cells):=h2.ow.kept hg (aY h2.ow (by omega))
 have hm2:OwnMat W B (fun b=>B≤b) cv us xss:=hm.grown hg (aY hm.1 (by omega)) fun b hb=>by simp;omega
 exact ⟨av,cv,us,⟨ints,bools,ds,xss⟩,rfl,FR.of ho hm2 h2.av_ (by omega) hd1 (by omega),⟨e1.symm,e2,e3.symm,hx,hd,hcl⟩,h2.fs.bl.grown hg h2.fs.bl.size fun g e=>by injection e with e;omega⟩
set_option maxRecDepth 100000 in
set_option maxHeartbeats 4000000 in
theorem nY (v:Value) (a b c:Int) (L:List Int) (w:World) (hv:sG w v a b c L) :
  Calls Try.prog 21 #[v] w (pZ w a b c):=by
 obtain ⟨lv,rfl,⟨a1,a2⟩,⟨b1,b2⟩,⟨c1,c2⟩,hL⟩:=hv
 have HL:=Lib.hid hL
 obtain ⟨A,cp,rfl,k1,k2,k3,hr⟩:=hL
 unfold maxLen at k2
 clear hr k3
 go_enter Try.func21,Try.ntmps21
 go_wp2_with fail
 have HM:Hid (Byts w (.slice A (min (L.length:Int) 300).toNat cp) (L.take 300)):=by
  obtain ⟨A',c',hv,l1,l2,l3,l4⟩:=HL.out
  injection hv with e1 e2 e3
  subst e1 e3
  refine ⟨A,cp,?_,?_,l2,fun x hx=>l3 x (zN hx),?_⟩
  ·congr 1;simp;omega
  ·simp;omega
  ·intro h0
   obtain ⟨b,off,hA,hlt,hc⟩:=l4 (by simp at h0 ⊢;omega)
   refine ⟨b,off,hA,hlt,fun j u hu=>hc j u ?_⟩
   rw [jM,qX] at hu
   split at hu
   ·exact hu
   ·cases hu
 have hM:(L.take 300).length≤300:=by simp;omega
 generalize L.take 300=M at HM hM
 obtain ⟨AM,cM,hMv, -, -, -, -⟩:=HM.out
 rw [hMv] at HM ⊢
 generalize hints:2+a % 5=ints
 have hi1:2≤ints:=by omega
 have hi2:ints≤6:=by omega
 have HINTS:=Lib.hid hints
 clear hints
 have hFS:FS w ((((w.alloc (.cells #[.int .u8 a, .int .u8 b, .int .u8 c, .slice A L.length cp] 25)).alloc (.cells #[.int .i64 0, .int .i64 0, .slice none 0 0, .slice none 0 0] 29)).alloc (.cells #[.int .i64 ints, .int .i64 0, .slice none 0 0, .slice none 0 0] 29)).alloc (.cells #[.slice AM M.length cM, .int .i64 0] 101))
   a b c (.slice A L.length cp) (.slice AM M.length cM) ints 0 (.slice none 0 0) (.slice none 0 0) 0:=by
  have z0:=Blk.new w 25 #[.int .u8 a, .int .u8 b, .int .u8 c, .slice A L.length cp]
  have z1:=Blk.new (w.alloc (.cells #[.int .u8 a, .int .u8 b, .int .u8 c, .slice A L.length cp] 25)) 29 #[.int .i64 0, .int .i64 0, .slice none 0 0, .slice none 0 0]
  have z2:=Blk.new ((w.alloc (.cells #[.int .u8 a, .int .u8 b, .int .u8 c, .slice A L.length cp] 25)).alloc (.cells #[.int .i64 0, .int .i64 0, .slice none 0 0, .slice none 0 0] 29)) 29 #[.int .i64 ints, .int .i64 0, .slice none 0 0, .slice none 0 0]
  have z3:=Blk.new (((w.alloc (.cells #[.int .u8 a, .int .u8 b, .int .u8 c, .slice A L.length cp] 25)).alloc (.cells #[.int .i64 0, .int .i64 0, .slice none 0 0, .slice none 0 0] 29)).alloc (.cells #[.int .i64 ints, .int .i64 0, .slice none 0 0, .slice none 0 0] 29)) 101 #[.slice AM M.length cM, .int .i64 0]
  simp only [xN] at z1 z2 z3
  exact ⟨((z0.alloc _).alloc _).alloc _,(z1.alloc _).alloc _,z2.alloc _,z3,by go_grown⟩
 have hWs:((((w.alloc (.cells #[.int .u8 a, .int .u8 b, .int .u8 c, .slice A L.length cp] 25)).alloc (.cells #[.int .i64 0, .int .i64 0, .slice none 0 0, .slice none 0 0] 29)).alloc (.cells #[.int .i64 ints, .int .i64 0, .slice none 0 0, .slice none 0 0] 29)).alloc (.cells #[.slice AM M.length cM, .int .i64 0] 101)).heap.size=w.heap.size+4:=by simp
 generalize (((w.alloc (.cells #[.int .u8 a, .int .u8 b, .int .u8 c, .slice A L.length cp] 25)).alloc (.cells #[.int .i64 0, .int .i64 0, .slice none 0 0, .slice none 0 0] 29)).alloc (.cells #[.int .i64 ints, .int .i64 0, .slice none 0 0, .slice none 0 0] 29)).alloc (.cells #[.slice AM M.length cM, .int .i64 0] 101)=W at *
 have HFS:=Lib.hid hFS
 have HWS:=Lib.hid hWs
 clear hFS hWs hMv
 obtain ⟨iD,hiD,hzD0,hzD1,hzD2⟩:=qD fA
 obtain ⟨m,hm,hm0,hm1⟩:∃m:Int,b.tmod 12=m∧0≤m∧m≤11:=⟨_,rfl,by rw [qK b1];omega,by rw [qK b1];omega⟩
 have HMB:Hid (m=b % 12):=by rw [←hm,qK b1];exact rfl
 have yb1:wrap64 b=b:=IntWalk.wrap64_in _ (by omega)
 have yb3:wrap64 (1+m)=1+m:=IntWalk.wrap64_in _ (by omega)
 go_loopw [5] (fun i wr=>∃(k at_:Nat) (av:Value) (ds:List Diff),(k:Int)≤1+m∧i = .int .i64 k∧ds.length=k∧at_≤M.length∧FS w wr a b c (.slice A L.length cp) (.slice AM M.length cM) ints 0 av (.slice none 0 0) at_ ∧
   wr.ownsRow (w.heap.size+4) 50 3 av k (ds.flatMap Diff.cells)∧(∀d∈ds,dV ints d=true ∧ -4≤d.c∧d.c≤2)∧w.heap.size+4≤wr.heap.size) (fun i _=>(1+m-intOf i).toNat)
 case atStart=>exact ⟨0,0,_,[],by omega,rfl,rfl,by omega,HFS.out,qE _ _ _ _,by simp,by rw [HWS.out];omega⟩
 case round =>
  obtain ⟨k,at_,av,ds,hk,rfl,hds,hat,hfs,hown,hok,hsz⟩:=hrel
  have HF1:=Lib.hid hfs
  have HO1:=Lib.hid hown
  have HK1:=Lib.hid hok
  have HD1:=Lib.hid hds
  have q1:=hfs.p0.cell 1
  have q2:=hfs.p0.cell 2
  have r0:=hfs.p2.cell 0
  have r1:=hfs.p2.cell 1
  have r2:=hfs.p2.cell 2
  have r3:=hfs.p2.cell 3
  simp only [zA,zB,zC] at q1 q2 r0 r1 r2 r3
  clear hfs hown hok hds
  by_cases hlt:(k:Int)<1+m
  ·have dlt:decide ((k:Int)<1+m)=true:=by simp;omega
   go_wp2_with fail
   refine (eX _ _ at_ M 256 _ HF1.out.p3 (HM.out.keep HF1.out.bl) (by omega) (by omega) hat (by omega)).mono ?_
   rintro e w2 ⟨x,at2,rfl,hx0,hx1,hat2,hB2,hg2,hs2⟩
   have HF2:=Lib.hid (HF1.out.next hg2 hB2)
   have HO2:Hid (w2.ownsRow (w.heap.size+4) 50 3 av k (ds.flatMap Diff.cells)):=HO1.out.kept hg2 (by cases h:av.ownBlock with|none=>simp|some g=>have:=HO1.out.lt g h;simp;omega)
   clear hB2 hg2 q1 q2 r0 r1 r2 r3
   have r0:=HF2.out.p2.cell 0
   have r2:=HF2.out.p2.cell 2
   simp only [zA,zB,zC] at r0 r2
   have hX1:0≤x % ints:=vC _ (by omega)
   have hX2:x % ints<ints:=kJ _ (by omega)
   simp only
   go_wp2_with fail
   generalize x % ints=X at *
   have hC1 : -4≤x / 16 % 7-4∧x / 16 % 7-4≤2:=by omega
   generalize x / 16 % 7-4=C at *
   have hD3:=Blk.new w2 50 #[.int .i64 X, .int .i64 0, .int .i64 C]
   rw [hs2] at hD3
   have hg3:w2.grownBy (w2.alloc (.cells #[.int .i64 X, .int .i64 0, .int .i64 C] 50)) none:=⟨rfl,rfl,rfl,by simp,fun k hk _=>Below.heap_alloc w2 _ k hk⟩
   have hs3:(w2.alloc (.cells #[.int .i64 X, .int .i64 0, .int .i64 C] 50)).heap.size=wr.heap.size+1:=by simp [hs2]
   generalize w2.alloc (.cells #[.int .i64 X, .int .i64 0, .int .i64 C] 50)=w3 at *
   have HF3:=Lib.hid (HF2.out.grown hg3 (fun g h=>by cases h))
   have HO3:Hid (w3.ownsRow (w.heap.size+4) 50 3 av k (ds.flatMap Diff.cells)):=HO2.out.kept hg3 (by simp;exact jP _)
   have HD3:=Lib.hid hD3
   clear hg3 r0 r2 hD3
   have HSOF:Hid (∀w',w3.grownBy w' (some (w.heap.size+1+1+1))→w'.cell? ⟨wr.heap.size,0,none⟩=some (.int .i64 X)∧w'.cell? ⟨w.heap.size+1+1,0,none⟩=some (.int .i64 ints)) :=
    fun w' h=>⟨(HD3.out.grown h (by simp;omega)).cell 0,(HF3.out.p2.grown h (by simp)).cell 0⟩
   have y1:IntKind.i64.wrap (X+1)=X+1:=qN _ (by omega)
   have y2:IntKind.i64.wrap (ints-1)=ints-1:=qN _ (by omega)
   have y3:¬ints-1=0:=by omega
   have y3b:¬ints=1:=by omega
   have y4:¬ints=0:=by omega
   have hs0:=HSOF.out _ (show w3.grownBy w3.drew _ from ⟨rfl,rfl,rfl,Nat.le_refl _,fun _ _ _=>rfl⟩)
   go_region_held3 (fun w'=>w'.cell? ⟨wr.heap.size,0,none⟩=some (.int .i64 X)∧w'.cell? ⟨w.heap.size+1+1,0,none⟩=some (.int .i64 ints)) (assumption) (first
    | (go_at_call 44;refine (eX _ _ at2 M 256 _ HF3.out.p3.drew (HM.out.keep HF3.out.bl.drew) (by omega) (by omega) hat2 (by omega)).mono ?_;rintro e w4 ⟨x2,at3,rfl,hxx0,hxx1,hat3,hB4,hg4,hs4⟩;have hS4:=HSOF.out w4 ⟨hg4.os,hg4.tape,hg4.output,hg4.size,hg4.block⟩;obtain ⟨Y,Z,hY,hYt,hZ,hZt,hy1,hy2,hz1,hz2,hz3⟩:=yz X ints x2 hX1 hX2 hi1 hi2 hxx0;have y5:IntKind.i64.wrap (X+1+Y)=X+1+Y:=qN _ (by omega);have y6:IntKind.i64.wrap Y=Y:=qN _ (by omega);have y7:IntKind.i64.wrap Z=Z:=qN _ (by omega);have HD4:=Lib.hid (HD3.out.drew.grown hg4 (by simp;omega));have hfz:=HD4.out.frozen 1;have hcz:=HD4.out.cell 1;have hS5:=setS (HD4.out) hS4.2 (by omega) Z;have HB4:=Lib.hid hB4;have HG4:=Lib.hid hg4;clear hB4 hg4))
   have HF4:Hid (FS w w4 a b c (.slice A L.length cp) (.slice AM M.length cM) ints 0 av (.slice none 0 0) at3) :=
    FS.next (wr:=w3.drew) ⟨HF3.out.p0,HF3.out.p1,HF3.out.p2,HF3.out.p3,HF3.out.bl.drew⟩ HG4.out HB4.out
   have hs4':w4.heap.size=wr.heap.size+1:=by rw [hs4];exact hs3
   have hav:∀g,av.ownBlock=some g→w.heap.size+4≤g∧g<wr.heap.size:=fun g h=>HO1.out.lt g h
   have HAV:=Lib.hid hav
   have HO4:Hid (w4.ownsRow (w.heap.size+4) 50 3 av k (ds.flatMap Diff.cells)) :=
    World.ownsRow.kept (w:=w3.drew) HO3.out HG4.out (by cases h:av.ownBlock with|none=>simp|some g=>have:=HAV.out g h;simp;omega)
   have hg5:w4.grownBy (w4.setCell ⟨wr.heap.size,1,none⟩ (.int .i64 Z)) (some wr.heap.size):=jY _ _ _ _
   have HF5:=Lib.hid (HF4.out.grown hg5 (fun g h=>by injection h with h;omega))
   have HO5:Hid ((w4.setCell ⟨wr.heap.size,1,none⟩ (.int .i64 Z)).ownsRow (w.heap.size+4) 50 3 av k (ds.flatMap Diff.cells)) :=
    HO4.out.kept hg5 (by cases h:av.ownBlock with|none=>simp|some g=>have:=HAV.out g h;simp;omega)
   have hD5:Blk (w4.setCell ⟨wr.heap.size,1,none⟩ (.int .i64 Z)) wr.heap.size 50 #[.int .i64 X, .int .i64 Z, .int .i64 C]:=HD4.out.set_ 1 _
   have hs5:(w4.setCell ⟨wr.heap.size,1,none⟩ (.int .i64 Z)).heap.size=wr.heap.size+1:=by simp [hs4']
   generalize w4.setCell ⟨wr.heap.size,1,none⟩ (.int .i64 Z)=w5 at *
   have t0:=hD5.cell 0
   have t1:=hD5.cell 1
   have t2:=hD5.cell 2
   have r2:=HF5.out.p2.cell 2
   simp only [zA,zB,zC] at t0 t1 t2 r2
   clear hs0 hS4 hS5 hfz hcz hg5 hD5 y1 y2 y3 y3b y4 y5 y6 y7 hY hYt hZ hZt hav
   go_wp2_with (at_builtin;refine zW _ rfl _ _ 26 rfl (w.heap.size+4) 50 iD (.agg #[.int .i64 0, .int .i64 0, .int .i64 0]) 3 24 Try.underlying26 hiD hzD0 hzD1 hzD2 rfl (by decide) _ _ _ rfl (HO5.out.alloc _) ⟨wr.heap.size+1,0,none⟩ 1 1 [.int .i64 X, .int .i64 Z, .int .i64 C] rfl rfl ?c1 ?c2 ?c3 ?c4 ?c5 ?_)
   case c1=>exact wY w5 _ [.int .i64 X, .int .i64 Z, .int .i64 C] hs5
   case c2=>intro u hu;simp at hu;rcases hu with rfl|rfl|rfl<;>rfl
   case c3=>unfold maxLen;omega
   case c4=>omega
   case c5=>simp;omega
   intro av' w6 hown' hgrow _ hat6
   have HF6:Hid (FS w w6 a b c (.slice A L.length cp) (.slice AM M.length cM) ints 0 av (.slice none 0 0) at3) :=
    (HF5.out.grown (gZ w5 _) (fun g h=>by cases h)).grown hgrow (fun g h=>by have:=(HO5.out.lt g h).1;omega)
   obtain ⟨Ap,cap6,hap, -, -, -⟩:=wB hown'
   subst hap
   have HO6:=Lib.hid hown'
   have hsz6:w.heap.size+4≤w6.heap.size:=by have:=hgrow.size;simp at this;omega
   clear hown' hgrow hat6 t0 t1 t2 r2
   have f2:=HF6.out.p2.frozen 2
   have r2:=HF6.out.p2.cell 2
   simp only [zA,zB,zC] at r2
   go_wp2_with fail
   have HF7:=Lib.hid (HF6.out.setA (.slice Ap (k+1) cap6))
   have HO7:Hid ((w6.setCell ⟨w.heap.size+1+1,2,none⟩ (.slice Ap (k+1) cap6)).ownsRow (w.heap.size+4) 50 3 (.slice Ap (k+1) cap6) (k+1) ((ds++[(⟨X,Z,C⟩:Diff)]).flatMap Diff.cells)):=by
    have h:=HO6.out.kept (jY w6 (w.heap.size+1+1) 2 (.slice Ap (k+1) cap6)) (by cases h:(Value.slice Ap (k+1) cap6).ownBlock with|none=>simp|some g=>have:=(HO6.out.lt g h).1;simp;omega)
    exact Lib.hid (by simpa [Diff.cells] using h)
   go_roundw
   case rel =>
    refine ⟨k+1,at3,_,ds++[⟨X,Z,C⟩],by omega,by go_num,by simp [HD1.out],hat3,HF7.out,HO7.out,fun d hd => ?_,by simp;omega⟩
    rcases zK.1 hd with hd|hd
    ·exact HK1.out d hd
    ·rw [zH] at hd;subst hd;exact ⟨gQ.2 ⟨hX1,hX2,hz1,hz2,kY hz3,by omega,by omega⟩,hC1.1,hC1.2⟩
   case measure=>simp [intOf];omega
  ·have dlt:decide ((k:Int)<1+m)=false:=by simp;omega
   obtain ⟨d7,hd7,hd70,hd71⟩:∃d7:Int,c.tmod 7=d7∧0≤d7∧d7≤6:=⟨_,rfl,by rw [qK c1];omega,by rw [qK c1];omega⟩
   have HD7:Hid (d7=c % 7):=by rw [←hd7,qK c1];exact rfl
   obtain ⟨Av,cpA,hAv⟩:∃Av cpA,av = .slice Av k cpA:=by obtain ⟨Aa,ca,e,_⟩:=wB HO1.out;exact ⟨Aa,ca,e⟩
   subst hAv
   have f1:=HF1.out.p2.frozen 1
   go_wp2_with fail
   have HF8:=Lib.hid (HF1.out.setB ((k:Int)+d7))
   have HO8:Hid ((wr.setCell ⟨w.heap.size+1+1,1,none⟩ (.int .i64 ((k:Int)+d7))).ownsRow (w.heap.size+4) 50 3 (.slice Av k cpA) k (ds.flatMap Diff.cells)) :=
    HO1.out.kept (jY wr (w.heap.size+1+1) 1 _) (by cases h:(Value.slice Av k cpA).ownBlock with|none=>simp|some g=>have:=(HO1.out.lt g h).1;simp;omega)
   have hszB:(wr.setCell ⟨w.heap.size+1+1,1,none⟩ (.int .i64 ((k:Int)+d7))).heap.size=wr.heap.size:=by simp
   generalize wr.setCell ⟨w.heap.size+1+1,1,none⟩ (.int .i64 ((k:Int)+d7))=wb at *
   generalize hB:wb.heap.size=B
   have HF2:Hid (F2 w wb a b c (.slice A L.length cp) (.slice AM M.length cM) ints ((k:Int)+d7) (.slice Av k cpA) (.slice none 0 0) at_ ds B):=by
    have hd:=HD1.out
    refine ⟨HF8.out,?_,?_,by omega,by omega⟩
    ·rw [hd];exact HO8.out
    ·rw [←hB];exact fun g h=>(HO8.out.lt g h).2
   obtain ⟨bools,hbools,hbl1,hbl2⟩:∃bools:Int,(k:Int)+d7=bools∧1≤bools∧bools≤18:=⟨_,rfl,by omega,by omega⟩
   rw [hbools] at HF2
   have HBL:=Lib.hid hbools
   have hBlo:w.heap.size+4≤B:=by omega
   have HK8:Hid ((k:Int)=1+b % 12):=by have h:=HMB.out;show (k:Int)=1+b % 12;omega
   clear q1 q2 r0 r1 r2 r3 f1 hszB hbools hB hd7
   obtain ⟨iS,hiS,hzS0,hzS1,hzS2⟩:=qD aM
   obtain ⟨iI,hiI,hzI0,hzI1,hzI2⟩:=qD wV
   go_loopw [8] (fun _ wr=>∃(at_:Nat) (cv:Value) (us:List Value) (xss:List (List Int)),at_≤M.length∧xss.length≤40∧F2 w wr a b c (.slice A L.length cp) (.slice AM M.length cM) ints bools (.slice Av k cpA) cv at_ ds B ∧
     OwnMat wr B (fun b=>B≤b) cv us xss∧(∀xs∈xss,okCl bools xs)) (fun _ wr=>room (w.heap.size+1+1) wr)
   case atStart=>exact ⟨at_,_,[],[],hat,by simp,HF2.out,OwnMat.nil _ _ _,by simp⟩
   case round =>
    obtain ⟨at1,cv,us,xss,hat1,hxl,hf2,hom,hcl⟩:=hrel
    obtain ⟨wo,rfl⟩:∃wo:World,wo=wr:=⟨_,rfl⟩
    have H2:=Lib.hid hf2
    have HM2:=Lib.hid hom
    have HC2:=Lib.hid hcl
    have hul:us.length=xss.length:=hom.2.1
    obtain ⟨Ac,cc,hcv, -, -, -⟩:=wB hom.1
    subst hcv
    have HUL:=Lib.hid hul
    have hul':us.length≤40:=by omega
    have p30:=hf2.fs.p3.cell 0
    have p31:=hf2.fs.p3.cell 1
    have p20:=hf2.fs.p2.cell 0
    have p21:=hf2.fs.p2.cell 1
    have p22:=hf2.fs.p2.cell 2
    have p23:=hf2.fs.p2.cell 3
    simp only [zA,zB,zC] at p30 p31 p20 p21 p22 p23
    have p10:=hf2.fs.p1.cell 0
    have p11:=hf2.fs.p1.cell 1
    have p12:=hf2.fs.p1.cell 2
    have p13:=hf2.fs.p1.cell 3
    have z10:=hf2.fs.p1.frozen 0
    have z11:=hf2.fs.p1.frozen 1
    have z12:=hf2.fs.p1.frozen 2
    have z13:=hf2.fs.p1.frozen 3
    simp only [zA,zB,zC] at p10 p11 p12 p13
    clear hf2 hom hcl hul
    by_cases hlt1:at1<M.length
    ·have d1:decide ((at1:Int)<(M.length:Int))=true:=by simp;omega
     by_cases hlt2:us.length<40
     ·have d2:decide ((us.length:Int)<40)=true:=by simp;omega
      go_wp2_with fail
      go_quiet (fail)
      go_wp2_with fail
      refine (eX _ _ at1 M 256 _ (H2.out.fs.p3.drewN nq) (HM.out.keep (aW H2.out.fs.bl nq)) (by omega) (by omega) hat1 (by omega)).mono ?_
      rintro e w2 ⟨x,at2,rfl,hx0,hx1,hat2,hB2,hg2,hs2⟩
      have hg2':wo.grownBy w2 (some (w.heap.size+1+1+1)):=gG (show wo.grownBy (wo.drewN nq) _ from ⟨rfl,rfl,rfl,Nat.le_refl _,fun _ _ _=>rfl⟩) hg2
      have H3:=Lib.hid (H2.out.next hg2' hB2)
      have HM3:Hid (OwnMat w2 B (fun b=>B≤b) (.slice Ac us.length cc) us xss):=HM2.out.grown hg2' (aY HM2.out.1 (by omega)) (fun b hb=>by simp;omega)
      have hB3:∀g,(Value.slice Ac us.length cc).ownBlock=some g→g<w2.heap.size:=fun g h=>(HM3.out.1.lt g h).2
      have hBB:B≤w2.heap.size:=H3.out.hi
      have HB3:=Lib.hid hB3
      clear hB2 hg2 hg2' hs2 hB3 p30 p31 p20 p21 p22 p23 p10 p11 p12 p13 z10 z11 z12 z13
      simp only
      go_wp2_with fail
      have hk0:0≤x % 4∧x % 4≤3:=by omega
      generalize x % 4=k0 at *
      generalize hb3:w2.heap.size=B3 at *
      have HBE:=Lib.hid hb3
      clear hb3
      go_loopw [8,9] (fun cv kv wr=>∃(at_:Nat) (kk:Int) (xs:List Int),at_≤M.length ∧ -1≤kk∧kk≤k0∧kv = .int .i64 kk∧(xs.length:Int)=k0-kk∧F2 w wr a b c (.slice A L.length cp) (.slice AM M.length cM) ints bools (.slice Av k cpA) (.slice Ac us.length cc) at_ ds B ∧
        OwnMat wr B (fun b=>B≤b∧b<B3) (.slice Ac us.length cc) us xss∧Own wr B3 cv xs∧(∀x∈xs,dF bools x=true)∧B3≤wr.heap.size) (fun _ kv _=>(intOf kv+1).toNat)
      case atStart=>exact ⟨at2,k0,[],hat2,by omega,by omega,rfl,by simp,H3.out,HM3.out.mono fun b hb hb'=>⟨hb',by rw [←HBE.out];exact hb⟩,⟨qE _ _ _ _,by simp⟩,by simp,by rw [HBE.out];exact Nat.le_refl _⟩
      case round =>
       obtain ⟨at3,kk,xs,hat3,hkk1,hkk2,rfl,hxlen,hf3,hom3,how3,hok3,hsz3⟩:=hrel
       have H4:=Lib.hid hf3
       have HM4:=Lib.hid hom3
       have HW4:=Lib.hid how3
       have HK4:=Lib.hid hok3
       have HXL:=Lib.hid hxlen
       have hxl4:xs.length≤4:=by omega
       have p20:=hf3.fs.p2.cell 0
       have p21:=hf3.fs.p2.cell 1
       have p23:=hf3.fs.p2.cell 3
       simp only [zA,zB,zC] at p20 p21 p23
       obtain ⟨Ax,cx,hcx, -, -, -⟩:=wB how3.1
       subst hcx
       clear hf3 hom3 how3 hok3 hxlen
       by_cases hkk:0≤kk
       ·have dk:decide ((0:Int)≤kk)=true:=by simp;omega
        go_wp2_with fail
        refine (eX _ _ at3 M 256 _ H4.out.fs.p3 (HM.out.keep H4.out.fs.bl) (by omega) (by omega) hat3 (by omega)).mono ?_
        rintro e w4 ⟨y,at4,rfl,hy0,hy1,hat4,hB4,hg4,hs4⟩
        have H5:=Lib.hid (H4.out.next hg4 hB4)
        have HM5:Hid (OwnMat w4 B (fun b=>B≤b∧b<B3) (.slice Ac us.length cc) us xss):=HM4.out.grown hg4 (aY HM4.out.1 (by omega)) (fun b hb=>by simp;omega)
        have HW5:Hid (w4.ownsRow B3 3 1 (.slice Ax xs.length cx) xs.length (xs.map (Value.int .i64))):=HW4.out.1.kept hg4 (aY HW4.out.1 (by omega))
        have hsz5:B3≤w4.heap.size:=by omega
        clear hB4 hg4 hs4 p20 p21 p23
        have p21:=H5.out.fs.p2.cell 1
        simp only [zA,zB,zC] at p21
        have hz1:0≤y / 2 % bools:=vC _ (by omega)
        have hz2:y / 2 % bools<bools:=kJ _ (by omega)
        simp only
        by_cases hy:y % 2=1
        ·have dy:((y % 2:Int) == 1)=true:=by simp;omega
         go_wp2_with (at_builtin;refine zW _ rfl _ _ 33 rfl B3 3 iI (.int .i64 0) 1 8 Try.underlying33 hiI hzI0 hzI1 hzI2 rfl (by decide) _ _ _ rfl (HW5.out.alloc _) ⟨w4.heap.size,0,none⟩ 1 1 [.int .i64 (-(1+y / 2 % bools))] rfl rfl ?m1 ?m2 ?m3 ?m4 ?m5 ?_)
         case m1=>exact wR w4 _ _
         case m2=>intro u hu;simp at hu;subst hu;rfl
         case m3=>unfold maxLen;omega
         case m4=>omega
         case m5=>simp;omega
         intro c' w6 hown' hgrow _ hat6
         have H6:Hid (F2 w w6 a b c (.slice A L.length cp) (.slice AM M.length cM) ints bools (.slice Av k cpA) (.slice Ac us.length cc) at4 ds B) :=
          (H5.out.grown (gZ w4 _) (fun g h=>by cases h)).grown hgrow (fun g h=>by have:=(HW5.out.lt g h).1;omega)
         have HM6:Hid (OwnMat w6 B (fun b=>B≤b∧b<B3) (.slice Ac us.length cc) us xss) :=
          (HM5.out.grown (gZ w4 _) (pB _) (fun b hb=>by simp)).grown hgrow (own_ne2 HB3.out fun g h=>(HW5.out.lt g h).1) (fun b hb e=>by have:=(HW5.out.lt b e.symm).1;omega)
         have HW6:Hid (Own w6 B3 c' (xs++[-(1+y / 2 % bools)])):=by
          refine Lib.hid ⟨by simpa using hown',fun z hz => ?_⟩
          rcases zK.1 hz with hz|hz
          ·exact HW4.out.2 z hz
          ·rw [zH] at hz;subst hz;constructor<;>omega
         have hsz6:B3≤w6.heap.size:=by have:=hgrow.size;simp at this;omega
         have HK6:Hid (∀z∈xs++[-(1+y / 2 % bools)],dF bools z=true):=by
          intro z hz
          rcases zK.1 hz with hz|hz
          ·exact HK4.out z hz
          ·rw [zH] at hz;subst hz;exact dH.2 ⟨by omega,by omega,by omega⟩
         clear hown' hgrow hat6 p21 dy dk
         go_wp2_with fail
         go_roundw
         case rel=>exact ⟨at4,kk-1,xs++[-(1+y / 2 % bools)],hat4,by omega,by omega,rfl,by simp [HXL.out];omega,H6.out,HM6.out,HW6.out,HK6.out,hsz6⟩
         case measure=>simp [intOf];omega
        ·have dy:((y % 2:Int) == 1)=false:=by simp;omega
         go_wp2_with (at_builtin;refine zW _ rfl _ _ 33 rfl B3 3 iI (.int .i64 0) 1 8 Try.underlying33 hiI hzI0 hzI1 hzI2 rfl (by decide) _ _ _ rfl (HW5.out.alloc _) ⟨w4.heap.size,0,none⟩ 1 1 [.int .i64 (1+y / 2 % bools)] rfl rfl ?n1 ?n2 ?n3 ?n4 ?n5 ?_)
         case n1=>exact wR w4 _ _
         case n2=>intro u hu;simp at hu;subst hu;rfl
         case n3=>unfold maxLen;omega
         case n4=>omega
         case n5=>simp;omega
         intro c' w6 hown' hgrow _ hat6
         have H6:Hid (F2 w w6 a b c (.slice A L.length cp) (.slice AM M.length cM) ints bools (.slice Av k cpA) (.slice Ac us.length cc) at4 ds B) :=
          (H5.out.grown (gZ w4 _) (fun g h=>by cases h)).grown hgrow (fun g h=>by have:=(HW5.out.lt g h).1;omega)
         have HM6:Hid (OwnMat w6 B (fun b=>B≤b∧b<B3) (.slice Ac us.length cc) us xss) :=
          (HM5.out.grown (gZ w4 _) (pB _) (fun b hb=>by simp)).grown hgrow (own_ne2 HB3.out fun g h=>(HW5.out.lt g h).1) (fun b hb e=>by have:=(HW5.out.lt b e.symm).1;omega)
         have HW6:Hid (Own w6 B3 c' (xs++[1+y / 2 % bools])):=by
          refine Lib.hid ⟨by simpa using hown',fun z hz => ?_⟩
          rcases zK.1 hz with hz|hz
          ·exact HW4.out.2 z hz
          ·rw [zH] at hz;subst hz;constructor<;>omega
         have hsz6:B3≤w6.heap.size:=by have:=hgrow.size;simp at this;omega
         have HK6:Hid (∀z∈xs++[1+y / 2 % bools],dF bools z=true):=by
          intro z hz
          rcases zK.1 hz with hz|hz
          ·exact HK4.out z hz
          ·rw [zH] at hz;subst hz;exact dH.2 ⟨by omega,by omega,by omega⟩
         clear hown' hgrow hat6 p21 dy dk
         go_wp2_with fail
         go_roundw
         case rel=>exact ⟨at4,kk-1,xs++[1+y / 2 % bools],hat4,by omega,by omega,rfl,by simp [HXL.out];omega,H6.out,HM6.out,HW6.out,HK6.out,hsz6⟩
         case measure=>simp [intOf];omega
       ·have dk:decide ((0:Int)≤kk)=false:=by simp;omega
        obtain rfl:kk = -1:=by omega
        go_wp2_with (at_builtin;refine zW _ rfl _ _ 27 rfl B 33 iS (.slice none 0 0) 1 24 Try.underlying27 hiS hzS0 hzS1 hzS2 rfl (by decide) _ _ _ rfl (HM4.out.1.alloc _) ⟨wr.heap.size,0,none⟩ 1 1 [.slice Ax xs.length cx] rfl rfl (wR wr _ _) ?g2 ?g3 ?g4 ?g5 ?_)
        case g2=>rfl
        case g3=>unfold maxLen;omega
        case g4=>omega
        case g5=>omega
        intro cv' w6 hown' hgrow _ hat6
        obtain ⟨Ap,cap6,hap, -, -, -⟩:=wB hown'
        subst hap
        have H6:Hid (F2 w w6 a b c (.slice A L.length cp) (.slice AM M.length cM) ints bools (.slice Av k cpA) (.slice Ac us.length cc) at3 ds B) :=
         (H4.out.grown (gZ wr _) (fun g h=>by cases h)).grown hgrow (fun g h=>(HM4.out.1.lt g h).1)
        have HM6:Hid (OwnMat w6 B (fun b=>B≤b) (.slice Ap (us.length+1) cap6) (us++[.slice Ax xs.length cx]) (xss++[xs])) :=
         (HM4.out.mono fun b _ hb=>hb.1).push (HW4.out.intsO fun b' hb1 _ _=>⟨by omega,fun e=>by have:=HB3.out b' e.symm;omega⟩) hown' hgrow (by simpa using hat6)
        clear hown' hgrow hat6 p20 p21 p23
        have z23:=H6.out.fs.p2.frozen 3
        have p23:=H6.out.fs.p2.cell 3
        simp only [zA,zB,zC] at p23
        go_wp2_with fail
        have H7:=Lib.hid (H6.out.setC (.slice Ap (us.length+1) cap6))
        have HM7:Hid (OwnMat (w6.setCell ⟨w.heap.size+1+1,3,none⟩ (.slice Ap (us.length+1) cap6)) B (fun b=>B≤b) (.slice Ap (us.length+1) cap6) (us++[.slice Ax xs.length cx]) (xss++[xs])) :=
         HM6.out.grown (jY _ _ _ _) (aY HM6.out.1 (by omega)) (fun b hb=>by simp;omega)
        have HR7:Hid (room (w.heap.size+1+1) (w6.setCell ⟨w.heap.size+1+1,3,none⟩ (.slice Ap (us.length+1) cap6))<room (w.heap.size+1+1) wo):=by
         have e1:=H7.out.fs.p2.cell 3
         have e2:=H2.out.fs.p2.cell 3
         simp only [zA,zB,zC] at e1 e2
         refine Lib.hid ?_
         simp only [room,e1,e2]
         omega
        have HX7:Hid (∀zs∈xss++[xs],okCl bools zs):=by
         intro zs hz
         rcases zK.1 hz with hz|hz
         ·exact HC2.out zs hz
         ·rw [zH] at hz;subst hz;have:=HXL.out;exact ⟨by omega,by omega,HK4.out⟩
        go_roundw
        case rel=>exact ⟨at3,_,us++[.slice Ax xs.length cx],xss++[xs],hat3,by have:=HUL.out;simp;omega,H7.out,HM7.out,HX7.out⟩
        case measure=>exact HR7.out
     ·have d2:decide ((us.length:Int)<40)=false:=by simp;omega
      go_wp2_with fail
      go_quiet (fail)
      go_wp2_with fail
      exact kK (v := .agg #[.int .i64 ints, .int .i64 bools, .slice Av k cpA, .slice Ac us.length cc]) (by simp [results,Try.results21,go_sem,p10,p11,p12,p13]) rfl (nA H2.out HM2.out hxl HC2.out HK1.out HINTS.out (by rw [HD1.out];exact HK8.out) (by rw [HD1.out,←HD7.out];exact HBL.out) (eQ _ _ _ _ _ _ _))
    ·have d1:decide ((at1:Int)<(M.length:Int))=false:=by simp;omega
     go_wp2_with fail
     go_quiet (fail)
     go_wp2_with fail
     exact kK (v := .agg #[.int .i64 ints, .int .i64 bools, .slice Av k cpA, .slice Ac us.length cc]) (by simp [results,Try.results21,go_sem,p10,p11,p12,p13]) rfl (nA H2.out HM2.out hxl HC2.out HK1.out HINTS.out (by rw [HD1.out];exact HK8.out) (by rw [HD1.out,←HD7.out];exact HBL.out) (eQ _ _ _ _ _ _ _))
end Go.Proofs.Yticieifacalocaa
