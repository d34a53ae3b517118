/- Resolve -/
import Derived.Test.YticieifacalocaaTSC20
import Derived.Deep.RegionLaw
namespace Go.Proofs.Yticieifacalocaa
open Go.RowKit
def IsStp (w:World) (v:Value) (s:Stp):Prop :=
 ∃lv,v = .agg #[.int .i64 s.kind, .int .i64 s.index,lv, .int .i64 s.p, .int .i64 s.q, .int .i64 s.var]∧Ints w lv s.lits∧I64 s.kind∧I64 s.index∧I64 s.p∧I64 s.q∧I64 s.var
theorem IsStp.keep {w w':World} {v:Value} {s:Stp} (h:IsStp w v s) (hb:Below w.heap.size w w'):IsStp w' v s:=by
 obtain ⟨lv,h1,h2,h3⟩:=h
 exact ⟨lv,h1,h2.keep hb,h3⟩
def resE (cs:List (List Int)) (s:Stp):Option (List Int) :=
 if 0≤s.p∧0≤s.q then (cs[s.p.toNat]?).bind fun a=>(cs[s.q.toNat]?).bind fun b=>res a b s.var else none
theorem oQ {cs:List (List Int)} {s:Stp} {P Q:List Int} {p q:Nat} (hp:s.p=(p:Int)) (hq:s.q=(q:Int)) (h1:cs[p]? = some P) (h2:cs[q]? = some Q):resE cs s=res P Q s.var:=by
 unfold resE
 rw [if_pos (by omega),hp,hq]
 simp [h1,h2]
theorem cY {cs:List (List Int)} {s:Stp} (h:s.p<0∨(cs.length:Int)≤s.p∨s.q<0∨(cs.length:Int)≤s.q):resE cs s=none:=by
 unfold resE
 split
 ·rename_i hh
  cases e1:cs[s.p.toNat]? with
  | none=>rfl
  | some a =>
   cases e2:cs[s.q.toNat]? with
   | none=>rfl
   | some b =>
    have:=(zG.1 e1).1
    have:=(zG.1 e2).1
    omega
 ·rfl
theorem aC (b o j:Nat):(⟨b,o,none⟩:Addr).add j=⟨b,o+j,none⟩:=by
 unfold Addr.add
 split
 ·rename_i h;subst h;rfl
 ·rfl
theorem aO {N:Nat} (A B:List Int):splice ((aH 0 N A).map (Value.int .i64)) A.length (B.map (Value.int .i64))=(aH 0 N (A++B)).map (Value.int .i64):=by
 have e1:(aH 0 N A).take A.length=A:=by simp [aH]
 have e2:(aH 0 N A).drop (A.length+B.length)=List.replicate (N-(A++B).length) 0:=by
  rw [aH,List.drop_append,yE (by omega),xB,List.drop_replicate]
  congr 1
  simp;omega
 rw [splice,List.length_map,←uT,←jZ,e1,e2,aH,List.map_append,List.map_append,zZ]
theorem aZ (b o n c k:Nat) (l:Int) (hl:l=(k:Int)) (hk:k≤n) (hn:n≤c) :
  ∃dp,(∀w,(Instr.slice 33 (.slice (some ⟨b,o,none⟩) n c) (some (.int .i64 l)) none none).run Try.prog w = .ok (.slice dp (n-k) (c-k)) w)∧(k<n→dp=some ⟨b,o+k,none⟩):=by
 subst hl
 refine ⟨if c=k then some ⟨b,o,none⟩ else some ⟨b,o+k,none⟩,fun w => ?_,fun h=>by rw [if_neg (by omega)]⟩
 rw [jT (P:=Try.prog) (w:=w) 33 _ n c (by kernel_rfl) .i64 (k:Int) (by omega) (by omega),show (sizeOf (Try.prog.elem 33)).run Try.prog w = .ok 1 w by kernel_rfl]
 simp only [Result.andThen,sliced,Int.toNat_natCast,yC,yX,aC]
theorem cut_to (b o n c k:Nat) (hk:k≤c) (w:World):(Instr.slice 33 (.slice (some ⟨b,o,none⟩) n c) none (some (.int .i64 (k:Int))) none).run Try.prog w = .ok (.slice (some ⟨b,o,none⟩) k c) w:=by
 rw [run_slice_h (P:=Try.prog) (w:=w) 33 _ n c (by kernel_rfl) .i64 (k:Int) (by omega) (by omega),show (sizeOf (Try.prog.elem 33)).run Try.prog w = .ok 1 w by kernel_rfl]
 simp only [Result.andThen,sliced,Int.toNat_natCast,vQ,yX,aC,kN,wE,ite_self]
set_option maxRecDepth 100000 in
set_option maxHeartbeats 1000000 in
theorem tH (kd ix lv ev:Value) (cs:List (List Int)) (p q:Nat) (v:Int) (P Q T1 T2 T3 T4:List Int) (w:World) (he:Mat w ev cs) (hp:cs[p]? = some P) (hq:cs[q]? = some Q) (hv0:0≤v) (hv1:v<1024)
  (hi:Lib.idxOf P (v+1)=(T1.length:Int)) (hj:Lib.idxOf Q (-(v+1))=(T3.length:Int)) (hPT:P=T1++(v+1)::T2) (hQT:Q=T3 ++ -(v+1)::T4) (hlP:P.length≤500000) (hlQ:Q.length≤500000) :
  Calls Try.prog 90 #[.agg #[kd,ix,lv, .int .i64 (p:Int), .int .i64 (q:Int), .int .i64 v],ev] w (ClRet w (gB (T1++(T2++(T3++T4))))):=by
 have hlP':P.length=T1.length+T2.length+1:=by rw [hPT];simp;omega
 have hlQ':Q.length=T3.length+T4.length+1:=by rw [hQT];simp;omega
 obtain ⟨A,c,vs,rfl,h1,h2,h3,hr,hin⟩:=he
 unfold maxLen at h2
 have HR:=Lib.hid hr
 have HIN:=Lib.hid hin
 have H3:=Lib.hid h3
 obtain ⟨b1,o1,A1,c1,rfl,hb1,hcP,hP⟩:=Mat.at_ hr h3 hin hp
 obtain ⟨b1',o1',A2,c2,hA',hb1',hcQ,hQ⟩:=Mat.at_ hr h3 hin hq
 injection hA' with hA'
 injection hA' with e1 e2
 subst e1 e2
 have HPI:=Lib.hid hP
 have HQI:=Lib.hid hQ
 obtain ⟨Ap,cp,hpv,hp1,hp2,hp3,hp4⟩:=hP
 injection hpv with e1 e2 e3
 subst e1 e3
 obtain ⟨bp,op,rfl,hbp,hcp⟩:=hp4 (by simp;omega)
 obtain ⟨Aq,cq,hqv,hq1,hq2,hq3,hq4⟩:=hQ
 injection hqv with e1 e2 e3
 subst e1 e3
 obtain ⟨bq,oq,rfl,hbq,hcq⟩:=hq4 (by simp;omega)
 have HCP:=Lib.hid hcp
 have HCQ:=Lib.hid hcq
 have HP3:=Lib.hid hp3
 have HQ3:=Lib.hid hq3
 have HI:=Lib.hid hi
 have HJ:=Lib.hid hj
 have hpl:p<cs.length:=(zG.1 hp).1
 have hql:q<cs.length:=(zG.1 hq).1
 unfold maxLen at hp2 hq2
 have HPT:=Lib.hid hPT
 have HQT:=Lib.hid hQT
 have HLP:=Lib.hid hlP'
 have HLQ:=Lib.hid hlQ'
 have a1:T1.length+T2.length+1≤P.length:=by omega
 have a2:P.length≤T1.length+T2.length+1:=by omega
 have a3:T3.length+T4.length+1≤Q.length:=by omega
 have a4:Q.length≤T3.length+T4.length+1:=by omega
 clear hr hin h3 hp hq hcp hcq hp3 hq3 hi hj hPT hQT hlP' hlQ'
 have d1:decide ((p:Int)<0)=false:=by simp
 have d2:decide ((cs.length:Int)≤(p:Int))=false:=by simp;omega
 have d3:decide ((q:Int)<0)=false:=by simp
 have d4:decide ((cs.length:Int)≤(q:Int))=false:=by simp;omega
 have d5:decide (v<0)=false:=by simp;omega
 have d6:decide ((1024:Int)≤v)=false:=by simp;omega
 go_enter Try.func90,Try.ntmps90
 go_wp2_with fail
 have hcP':(w.alloc (.cells #[kd,ix,lv, .int .i64 (p:Int), .int .i64 (q:Int), .int .i64 v] 91)).cell? ⟨b1,o1+p,none⟩=some (.slice (some ⟨bp,op,none⟩) P.length c1):=(((zM w.heap.size w).alloc (Nat.le_refl _) _).cell (p:=⟨b1,o1+p,none⟩) hb1).trans hcP
 have hcQ':(w.alloc (.cells #[kd,ix,lv, .int .i64 (p:Int), .int .i64 (q:Int), .int .i64 v] 91)).cell? ⟨b1,o1+q,none⟩=some (.slice (some ⟨bq,oq,none⟩) Q.length c2):=(((zM w.heap.size w).alloc (Nat.le_refl _) _).cell (p:=⟨b1,o1+q,none⟩) hb1).trans hcQ
 go_quiet (fail)
 have B0:Blk ((w.alloc (.cells #[kd,ix,lv, .int .i64 (p:Int), .int .i64 (q:Int), .int .i64 v] 91)).drewN nq) w.heap.size 91 #[kd,ix,lv, .int .i64 (p:Int), .int .i64 (q:Int), .int .i64 v]:=(Blk.new w _ _).drewN nq
 have hbW:Below w.heap.size w ((w.alloc (.cells #[kd,ix,lv, .int .i64 (p:Int), .int .i64 (q:Int), .int .i64 v] 91)).drewN nq):=cW ((zM _ _).alloc (Nat.le_refl _) _) nq
 have hsW:((w.alloc (.cells #[kd,ix,lv, .int .i64 (p:Int), .int .i64 (q:Int), .int .i64 v] 91)).drewN nq).heap.size=w.heap.size+1:=by show (w.alloc _).heap.size=_;simp
 generalize (w.alloc (.cells #[kd,ix,lv, .int .i64 (p:Int), .int .i64 (q:Int), .int .i64 v] 91)).drewN nq=W at *
 have q5:=B0.cell 5
 simp only [zA,zB,zC] at q5
 have HBW:=Lib.hid hbW
 have HSW:=Lib.hid hsW
 clear hcP hcQ hcP' hcQ' B0 hbW hsW d1 d2 d3 d4 d5 d6
 have HXP:Hid (∀k,k<P.length→W.cell? ⟨bp,op+k,none⟩=some (.int .i64 (P.getD k 0))):=fun k hk=>(HBW.out.cell (p:=⟨bp,op+k,none⟩) hbp).trans (HCP.out k _ (by simp [List.getElem?_map,List.getElem?_eq_getElem hk,List.getD]))
 have HXQ:Hid (∀k,k<Q.length→W.cell? ⟨bq,oq+k,none⟩=some (.int .i64 (Q.getD k 0))):=fun k hk=>(HBW.out.cell (p:=⟨bq,oq+k,none⟩) hbq).trans (HCQ.out k _ (by simp [List.getElem?_map,List.getElem?_eq_getElem hk,List.getD]))
 go_wp2_with fail
 refine (Try.slices_Index_int bp op P.length c1 P (v+1) W (Nat.le_refl _) (by omega) HXP.out).mono ?_
 rintro e w' ⟨rfl,rfl⟩
 rw [qQ,HI.out]
 simp only
 go_wp2_with fail
 refine (Try.slices_Index_int bq oq Q.length c2 Q (-(v+1)) w' (Nat.le_refl _) (by omega) HXQ.out).mono ?_
 rintro e W ⟨rfl,rfl⟩
 rw [qQ,HJ.out]
 simp only
 have d1:decide ((T1.length:Int)<0)=false:=by simp
 have d2:decide ((T3.length:Int)<0)=false:=by simp
 obtain ⟨N,hN⟩:∃N,N=P.length+Q.length-2:=⟨_,rfl⟩
 have hN1:N≤T1.length+T2.length+T3.length+T4.length:=by omega
 have hN2:T1.length+T2.length+T3.length+T4.length≤N:=by omega
 have mk:∀w,(Instr.makeSlice 33 (.int .i64 ((P.length:Int)+(Q.length:Int)-2)) (.int .i64 ((P.length:Int)+(Q.length:Int)-2))).run Try.prog w = .ok (.slice (some ⟨w.heap.size,0,none⟩) N N) (w.alloc (.cells (rowI (List.replicate N 0)) 3)):=by
  intro w
  have h:=mH N (by omega) w
  rwa [show (N:Int)=(P.length:Int)+(Q.length:Int)-2 by omega] at h
 have z0:Blk (W.alloc (.cells (rowI (List.replicate N 0)) 3)) W.heap.size 3 ((List.replicate N (0:Int)).map (Value.int .i64)).toArray:=Blk.new W _ _
 have HZ0:=Lib.hid z0
 have hWg:w.heap.size+1=W.heap.size:=HSW.out.symm
 have HWG:=Lib.hid hWg
 have HT1:Hid (∀j u,(T1.map (Value.int .i64))[j]? = some u→w.cell? ⟨bp,op+j,none⟩=some u):=fun j u hu=>HCP.out j u (by rw [HPT.out,List.map_append,zP (zG.1 hu).1];exact hu)
 have HT2:Hid (∀j u,(T2.map (Value.int .i64))[j]? = some u→w.cell? ⟨bp,op+(T1.length+1)+j,none⟩=some u):=fun j u hu=>by
  rw [vY]
  exact HCP.out (T1.length+1+j) u (by rw [HPT.out,List.map_append,zL (by simp;omega),zY,List.length_map,show T1.length+1+j-T1.length=j+1 by omega,zC];exact hu)
 have HT3:Hid (∀j u,(T3.map (Value.int .i64))[j]? = some u→w.cell? ⟨bq,oq+j,none⟩=some u):=fun j u hu=>HCQ.out j u (by rw [HQT.out,List.map_append,zP (zG.1 hu).1];exact hu)
 have HT4:Hid (∀j u,(T4.map (Value.int .i64))[j]? = some u→w.cell? ⟨bq,oq+(T3.length+1)+j,none⟩=some u):=fun j u hu=>by
  rw [vY]
  exact HCQ.out (T3.length+1+j) u (by rw [HQT.out,List.map_append,zL (by simp;omega),zY,List.length_map,show T3.length+1+j-T3.length=j+1 by omega,zC];exact hu)
 have hbpW:bp<W.heap.size:=by omega
 have hbqW:bq<W.heap.size:=by omega
 have ONE:∀(T:List Int),∀u∈T.map (Value.int .i64),u.oneCell'=true:=fun T u hu=>by obtain ⟨x,_,rfl⟩:=List.mem_map.1 hu;rfl
 have HON:=Lib.hid ONE
 have HK1:Hid ((T1.map (Value.int .i64)).length=Nat.min T1.length N):=by rw [List.length_map];exact (qV (by omega)).symm
 have HK2:Hid (0<(T1.map (Value.int .i64)).length→some (⟨W.heap.size,0,none⟩:Addr)=some ⟨W.heap.size,0,none⟩∧∃ad,some (⟨bp,op,none⟩:Addr)=some ad∧∀j u,(T1.map (Value.int .i64))[j]? = some u→(W.alloc (.cells (rowI (List.replicate N 0)) 3)).cell? (ad.add j)=some u) :=
  fun _=>⟨rfl,⟨bp,op,none⟩,rfl,fun j u hu=>by rw [aC];exact (((zM _ _).alloc (Nat.le_refl _) _).cell (p:=⟨bp,op+j,none⟩) hbpW).trans ((HBW.out.cell (p:=⟨bp,op+j,none⟩) hbp).trans (HT1.out j u hu))⟩
 have HK3:Hid (0+(T1.map (Value.int .i64)).length≤((List.replicate N (0:Int)).map (Value.int .i64)).length):=by refine Lib.hid ?_;simp;omega
 have HK5:Hid (Below W.heap.size W (W.alloc (.cells (rowI (List.replicate N 0)) 3))):=(zM _ _).alloc (Nat.le_refl _) _
 clear z0 hWg hN ONE
 go_wp2_with (refine wpList_copy_splice rfl (.tmp 76) (.tmp 79) 33 33 rfl 3 Try.underlying33 (by kernel_rfl) (some ⟨W.heap.size,0,none⟩) (some ⟨bp,op,none⟩) N N T1.length c1 rfl rfl W.heap.size 0 ((List.replicate N (0:Int)).map (Value.int .i64)) 3 HZ0.out (T1.map (Value.int .i64)) HK1.out HK2.out HK3.out (HON.out T1) W.heap.size W HK5.out (Nat.le_refl _) ?_;intro w4 hg4 hb4;have HB4:=Lib.hid hb4;clear hb4)
 have G4:Hid (Blk w4 W.heap.size 3 ((aH 0 N T1).map (Value.int .i64)).toArray):=by
  have h:=hg4.out
  rw [show (List.replicate N (0:Int))=aH 0 N [] from pad_nil.symm] at h
  have e:=aO (N:=N) [] T1
  rw [yW] at e
  rw [e,xB] at h
  exact h
 clear hg4
 clear HK1 HK2 HK3 HK5 d1 d2 mk
 go_wp2_with fail
 obtain ⟨dp5,cd5,hd5⟩:=aZ W.heap.size 0 N N (T1.length) ((T1.length:Int)) (by omega) (by omega) (Nat.le_refl _)
 obtain ⟨sp5,cs5,hs5⟩:=aZ bp op P.length c1 (T1.length+1) ((T1.length:Int)+1) (by omega) (by omega) hp1
 have HK1:Hid ((T2.map (Value.int .i64)).length=Nat.min (P.length-(T1.length+1)) (N-(T1.length))):=by rw [List.length_map];exact ((qV (by omega)).trans (by omega)).symm
 have HK2:Hid (0<(T2.map (Value.int .i64)).length→dp5=some ⟨W.heap.size,(T1).length,none⟩∧∃ad,sp5=some ad∧∀j u,(T2.map (Value.int .i64))[j]? = some u→w4.drew.cell? (ad.add j)=some u):=by
  intro h0
  rw [List.length_map] at h0
  refine ⟨by rw [hd5 (by omega),Nat.zero_add];try simp only [zH],⟨bp,op+(T1.length+1),none⟩,hs5 (by omega),fun j u hu => ?_⟩
  rw [aC]
  exact (HB4.out.cell (p:=⟨bp,op+(T1.length+1)+j,none⟩) hbpW).trans ((HBW.out.cell (p:=⟨bp,op+(T1.length+1)+j,none⟩) hbp).trans (HT2.out j u hu))
 have HK3:Hid ((T1).length+(T2.map (Value.int .i64)).length≤((aH 0 N (T1)).map (Value.int .i64)).length):=by
  refine Lib.hid ?_
  rw [List.length_map,List.length_map,pO (by (try simp only [zH]);omega)];(try simp only [zH]);omega
 have ya:IntKind.i64.wrap ((T1.length:Int)+1)=(T1.length:Int)+1:=qI _ (by omega)
 have yb:IntKind.i64.wrap ((T1.length:Int)+(T2.length:Int))=(T1.length:Int)+(T2.length:Int):=qI _ (by omega)
 go_region_law (refine step_copy_splice rfl (.tmp 84) (.tmp 88) 33 33 rfl 3 Try.underlying33 (by kernel_rfl) dp5 sp5 (N-(T1.length)) (N-(T1.length)) (P.length-(T1.length+1)) (c1-(T1.length+1)) (by simp [Act.eval,Act.put]) (by simp [Act.eval,Act.put]) W.heap.size (T1).length ((aH 0 N (T1)).map (Value.int .i64)) 3 G4.out (T2.map (Value.int .i64)) HK1.out HK2.out HK3.out (HON.out T2) W.heap.size W HB4.out.drew (Nat.le_refl _) ?_;intro w5 hg hb)
 have HB5:=Lib.hid hb
 have G5:Hid (Blk w5 W.heap.size 3 ((aH 0 N (T1++T2)).map (Value.int .i64)).toArray):=by
  have h:=hg.out
  rw [aO (N:=N) (T1) T2] at h
  exact h
 clear hg hb HK1 HK2 HK3 cd5 hd5 cs5 hs5 ya yb
 go_wp2_with fail
 have ct6:=cut_to bq oq Q.length c2 T3.length (by omega)
 obtain ⟨dp6,cd6,hd6⟩:=aZ W.heap.size 0 N N (T1.length+T2.length) ((T1.length:Int)+(T2.length:Int)) (by omega) (by omega) (Nat.le_refl _)
 have HK1:Hid ((T3.map (Value.int .i64)).length=Nat.min T3.length (N-(T1.length+T2.length))):=by rw [List.length_map];exact ((qV (by omega)).trans (by omega)).symm
 have HK2:Hid (0<(T3.map (Value.int .i64)).length→dp6=some ⟨W.heap.size,(T1++T2).length,none⟩∧∃ad,some (⟨bq,oq,none⟩:Addr)=some ad∧∀j u,(T3.map (Value.int .i64))[j]? = some u→w5.drew.cell? (ad.add j)=some u):=by
  intro h0
  rw [List.length_map] at h0
  refine ⟨by rw [hd6 (by omega),Nat.zero_add];try simp only [zH],⟨bq,oq,none⟩,rfl,fun j u hu => ?_⟩
  rw [aC]
  exact (HB5.out.cell (p:=⟨bq,oq+j,none⟩) hbqW).trans ((HBW.out.cell (p:=⟨bq,oq+j,none⟩) hbq).trans (HT3.out j u hu))
 have HK3:Hid ((T1++T2).length+(T3.map (Value.int .i64)).length≤((aH 0 N (T1++T2)).map (Value.int .i64)).length):=by
  refine Lib.hid ?_
  rw [List.length_map,List.length_map,pO (by (try simp only [zH]);omega)];(try simp only [zH]);omega
 have yb:IntKind.i64.wrap ((T1.length:Int)+(T2.length:Int)+(T3.length:Int))=(T1.length:Int)+(T2.length:Int)+(T3.length:Int):=qI _ (by omega)
 go_region_law (refine step_copy_splice rfl (.tmp 94) (.tmp 97) 33 33 rfl 3 Try.underlying33 (by kernel_rfl) dp6 (some ⟨bq,oq,none⟩) (N-(T1.length+T2.length)) (N-(T1.length+T2.length)) T3.length c2 (by simp [Act.eval,Act.put]) (by simp [Act.eval,Act.put]) W.heap.size (T1++T2).length ((aH 0 N (T1++T2)).map (Value.int .i64)) 3 G5.out (T3.map (Value.int .i64)) HK1.out HK2.out HK3.out (HON.out T3) W.heap.size W HB5.out.drew (Nat.le_refl _) ?_;intro w6 hg hb)
 have HB6:=Lib.hid hb
 have G6:Hid (Blk w6 W.heap.size 3 ((aH 0 N (T1++T2++T3)).map (Value.int .i64)).toArray):=by
  have h:=hg.out
  rw [aO (N:=N) (T1++T2) T3] at h
  exact h
 clear hg hb HK1 HK2 HK3 cd6 hd6  yb
 go_wp2_with fail
 obtain ⟨dp7,cd7,hd7⟩:=aZ W.heap.size 0 N N (T1.length+T2.length+T3.length) ((T1.length:Int)+(T2.length:Int)+(T3.length:Int)) (by omega) (by omega) (Nat.le_refl _)
 obtain ⟨sp7,cs7,hs7⟩:=aZ bq oq Q.length c2 (T3.length+1) ((T3.length:Int)+1) (by omega) (by omega) hq1
 have HK1:Hid ((T4.map (Value.int .i64)).length=Nat.min (Q.length-(T3.length+1)) (N-(T1.length+T2.length+T3.length))):=by rw [List.length_map];exact ((qV (by omega)).trans (by omega)).symm
 have HK2:Hid (0<(T4.map (Value.int .i64)).length→dp7=some ⟨W.heap.size,(T1++T2++T3).length,none⟩∧∃ad,sp7=some ad∧∀j u,(T4.map (Value.int .i64))[j]? = some u→w6.drew.cell? (ad.add j)=some u):=by
  intro h0
  rw [List.length_map] at h0
  refine ⟨by rw [hd7 (by omega),Nat.zero_add];try simp only [zH],⟨bq,oq+(T3.length+1),none⟩,hs7 (by omega),fun j u hu => ?_⟩
  rw [aC]
  exact (HB6.out.cell (p:=⟨bq,oq+(T3.length+1)+j,none⟩) hbqW).trans ((HBW.out.cell (p:=⟨bq,oq+(T3.length+1)+j,none⟩) hbq).trans (HT4.out j u hu))
 have HK3:Hid ((T1++T2++T3).length+(T4.map (Value.int .i64)).length≤((aH 0 N (T1++T2++T3)).map (Value.int .i64)).length):=by
  refine Lib.hid ?_
  rw [List.length_map,List.length_map,pO (by (try simp only [zH]);omega)];(try simp only [zH]);omega
 have ya:IntKind.i64.wrap ((T3.length:Int)+1)=(T3.length:Int)+1:=qI _ (by omega)
 go_region_law (refine step_copy_splice rfl (.tmp 102) (.tmp 106) 33 33 rfl 3 Try.underlying33 (by kernel_rfl) dp7 sp7 (N-(T1.length+T2.length+T3.length)) (N-(T1.length+T2.length+T3.length)) (Q.length-(T3.length+1)) (c2-(T3.length+1)) (by simp [Act.eval,Act.put]) (by simp [Act.eval,Act.put]) W.heap.size (T1++T2++T3).length ((aH 0 N (T1++T2++T3)).map (Value.int .i64)) 3 G6.out (T4.map (Value.int .i64)) HK1.out HK2.out HK3.out (HON.out T4) W.heap.size W HB6.out.drew (Nat.le_refl _) ?_;intro w7 hg hb)
 have HB7:=Lib.hid hb
 have G7:Hid (Blk w7 W.heap.size 3 ((aH 0 N (T1++T2++T3++T4)).map (Value.int .i64)).toArray):=by
  have h:=hg.out
  rw [aO (N:=N) (T1++T2++T3) T4] at h
  exact h
 clear hg hb HK1 HK2 HK3 cd7 hd7 cs7 hs7 ya
 go_wp2_with fail
 have hfull:aH 0 N (T1++T2++T3++T4)=T1++(T2++(T3++T4)):=by
  rw [eQ (by simp only [zH];omega)];simp only [zZ]
 have HI7:Hid (Ints w7 (.slice (some ⟨W.heap.size,0,none⟩) N N) (T1++(T2++(T3++T4)))):=by
  have h:=G7.out
  rw [hfull] at h
  have h2:=h.rd (fun x hx => ?_) (by simp only [zH];unfold maxLen;omega)
  ·rwa [show (T1++(T2++(T3++T4))).length=N by simp only [zH];omega] at h2
  ·simp only [zK] at hx
   rcases hx with hx|hx|hx|hx
   ·exact HP3.out x (by rw [HPT.out];simp [hx])
   ·exact HP3.out x (by rw [HPT.out];simp [hx])
   ·exact HQ3.out x (by rw [HQT.out];simp [hx])
   ·exact HQ3.out x (by rw [HQT.out];simp [hx])
 clear hfull
 refine (cP _ (T1++(T2++(T3++T4))) _ HI7.out (by simp only [zH];omega)).mono ?_
 intro e w8 hnr
 have hcl:=NormRet.cl (w:=w) hnr rfl (HBW.out.trans (HB7.out.mono (by have:=HWG.out;omega)))
 clear hnr
 obtain ⟨v,rfl,h5,h6⟩:=hcl
 have H5:=Lib.hid h5
 have H6:=Lib.hid h6
 clear h5 h6
 go_wp2_with fail
 go_ret2
 exact ⟨v,rfl,H5.out,H6.out⟩
theorem nP {x:Int} (zs:List Int) (k:Nat) (h:x∈zs):∃T1 T2,zs=T1++x::T2∧Lib.idxFrom zs x k=((k+T1.length:Nat):Int):=by
 induction zs generalizing k with
 | nil=>simp at h
 | cons z r ih =>
  by_cases e:z=x
  ·exact ⟨[],r,by simp [e],by simp [Lib.idxFrom,e]⟩
  ·obtain ⟨T1,T2,h1,h2⟩:=ih (k+1) (by
    rcases zW.1 h with h|h
    ·exact absurd h.symm e
    ·exact h)
   refine ⟨z::T1,T2,by rw [h1];rfl,?_⟩
   rw [Lib.idxFrom,if_neg (by simpa using e),h2]
   simp;omega
theorem lV {x:Int} (zs:List Int) (k:Nat) (h:x∉zs):Lib.idxFrom zs x k = -1:=by
 induction zs generalizing k with
 | nil=>rfl
 | cons z r ih =>
  simp only [zW,jC] at h
  rw [Lib.idxFrom,if_neg (by simpa using fun e=>h.1 e.symm),ih _ h.2]
set_option maxRecDepth 100000 in
set_option maxHeartbeats 1000000 in
theorem pR (kd ix lv ev:Value) (cs:List (List Int)) (p q v:Int) (w:World) (he:Mat w ev cs) (h:p<0∨(cs.length:Int)≤p∨q<0∨(cs.length:Int)≤q) :
  Calls Try.prog 90 #[.agg #[kd,ix,lv, .int .i64 p, .int .i64 q, .int .i64 v],ev] w (ClRet w none):=by
 obtain ⟨A,c,vs,rfl,h1,h2, -, -, -⟩:=he
 unfold maxLen at h2
 by_cases a1:p<0
 ·have d1:decide (p<0)=true:=by simpa using a1
  clear a1 h
  go_enter Try.func90,Try.ntmps90
  go_wp2_with fail
  go_ret2
  exact ClRet.no rfl (by go_grown)
 ·have d1:decide (p<0)=false:=by simpa using a1
  by_cases a2:(cs.length:Int)≤p
  ·have d2:decide ((cs.length:Int)≤p)=true:=by simpa using a2
   clear a1 a2 h
   go_enter Try.func90,Try.ntmps90
   go_wp2_with fail
   go_ret2
   exact ClRet.no rfl (by go_grown)
  ·have d2:decide ((cs.length:Int)≤p)=false:=by simpa using a2
   by_cases a3:q<0
   ·have d3:decide (q<0)=true:=by simpa using a3
    clear a1 a2 a3 h
    go_enter Try.func90,Try.ntmps90
    go_wp2_with fail
    go_ret2
    exact ClRet.no rfl (by go_grown)
   ·have d3:decide (q<0)=false:=by simpa using a3
    have a4:(cs.length:Int)≤q:=by omega
    have d4:decide ((cs.length:Int)≤q)=true:=by simpa using a4
    clear a1 a2 a3 a4 h
    go_enter Try.func90,Try.ntmps90
    go_wp2_with fail
    go_ret2
    exact ClRet.no rfl (by go_grown)
set_option maxRecDepth 100000 in
set_option maxHeartbeats 1000000 in
theorem rT (kd ix lv ev:Value) (cs:List (List Int)) (p q:Nat) (v:Int) (w:World) (he:Mat w ev cs) (hp:p<cs.length) (hq:q<cs.length) (h:v<0∨1024≤v) :
  Calls Try.prog 90 #[.agg #[kd,ix,lv, .int .i64 (p:Int), .int .i64 (q:Int), .int .i64 v],ev] w (ClRet w none):=by
 obtain ⟨A,c,vs,rfl,h1,h2, -, -, -⟩:=he
 unfold maxLen at h2
 have d1:decide ((p:Int)<0)=false:=by simp
 have d2:decide ((cs.length:Int)≤(p:Int))=false:=by simp;omega
 have d3:decide ((q:Int)<0)=false:=by simp
 have d4:decide ((cs.length:Int)≤(q:Int))=false:=by simp;omega
 by_cases a1:v<0
 ·have d5:decide (v<0)=true:=by simpa using a1
  clear a1 h
  go_enter Try.func90,Try.ntmps90
  go_wp2_with fail
  go_ret2
  exact ClRet.no rfl (by go_grown)
 ·have d5:decide (v<0)=false:=by simpa using a1
  have d6:decide ((1024:Int)≤v)=true:=by simp;omega
  clear a1 h
  go_enter Try.func90,Try.ntmps90
  go_wp2_with fail
  go_ret2
  exact ClRet.no rfl (by go_grown)
theorem mS (v:Value) (zs:List Int) (x:Int) (w:World) (hv:Ints w v zs):Calls Try.prog 98 #[v, .int .i64 x] w fun e w'=>e = .returned (.int .i64 (Lib.idxOf zs x))∧w'=w:=by
 obtain ⟨A,c,rfl,h1,h2,h3,hr⟩:=hv
 unfold maxLen at h2
 rcases zs with _|⟨z,r⟩
 ·exact Try.slices_Index_int_empty A c x w
 ·obtain ⟨b,o,rfl,hb,hc⟩:=hr (by simp)
  have h:=Try.slices_Index_int b o (z::r).length c (z::r) x w (Nat.le_refl _) (by omega) (fun j hj=>hc j _ (by simp only [List.getElem?_map,List.getElem?_eq_getElem hj,List.getD,yX,xQ]))
  rwa [qQ] at h
set_option maxRecDepth 100000 in
set_option maxHeartbeats 1000000 in
theorem fT (kd ix lv ev:Value) (cs:List (List Int)) (p q:Nat) (v:Int) (P Q:List Int) (w:World) (he:Mat w ev cs) (hp:cs[p]? = some P) (hq:cs[q]? = some Q) (hv0:0≤v) (hv1:v<1024)
  (h:Lib.idxOf P (v+1)<0∨Lib.idxOf Q (-(v+1))<0) :
  Calls Try.prog 90 #[.agg #[kd,ix,lv, .int .i64 (p:Int), .int .i64 (q:Int), .int .i64 v],ev] w (ClRet w none):=by
 obtain ⟨A,c,vs,rfl,h1,h2,h3,hr,hin⟩:=he
 unfold maxLen at h2
 obtain ⟨b1,o1,A1,c1,rfl,hb1,hcP,hP⟩:=Mat.at_ hr h3 hin hp
 obtain ⟨b1',o1',A2,c2,hA',hb1',hcQ,hQ⟩:=Mat.at_ hr h3 hin hq
 injection hA' with hA'
 injection hA' with e1 e2
 subst e1 e2
 have HPI:=Lib.hid hP
 have HQI:=Lib.hid hQ
 have hpl:p<cs.length:=(zG.1 hp).1
 have hql:q<cs.length:=(zG.1 hq).1
 clear hr hin h3 hp hq hP hQ
 have d1:decide ((p:Int)<0)=false:=by simp
 have d2:decide ((cs.length:Int)≤(p:Int))=false:=by simp;omega
 have d3:decide ((q:Int)<0)=false:=by simp
 have d4:decide ((cs.length:Int)≤(q:Int))=false:=by simp;omega
 have d5:decide (v<0)=false:=by simp;omega
 have d6:decide ((1024:Int)≤v)=false:=by simp;omega
 go_enter Try.func90,Try.ntmps90
 go_wp2_with fail
 have hcP':(w.alloc (.cells #[kd,ix,lv, .int .i64 (p:Int), .int .i64 (q:Int), .int .i64 v] 91)).cell? ⟨b1,o1+p,none⟩=some (.slice A1 P.length c1):=(((zM w.heap.size w).alloc (Nat.le_refl _) _).cell (p:=⟨b1,o1+p,none⟩) hb1).trans hcP
 have hcQ':(w.alloc (.cells #[kd,ix,lv, .int .i64 (p:Int), .int .i64 (q:Int), .int .i64 v] 91)).cell? ⟨b1,o1+q,none⟩=some (.slice A2 Q.length c2):=(((zM w.heap.size w).alloc (Nat.le_refl _) _).cell (p:=⟨b1,o1+q,none⟩) hb1).trans hcQ
 go_quiet (fail)
 have B0:Blk ((w.alloc (.cells #[kd,ix,lv, .int .i64 (p:Int), .int .i64 (q:Int), .int .i64 v] 91)).drewN nq) w.heap.size 91 #[kd,ix,lv, .int .i64 (p:Int), .int .i64 (q:Int), .int .i64 v]:=(Blk.new w _ _).drewN nq
 have hbW:Below w.heap.size w ((w.alloc (.cells #[kd,ix,lv, .int .i64 (p:Int), .int .i64 (q:Int), .int .i64 v] 91)).drewN nq):=cW ((zM _ _).alloc (Nat.le_refl _) _) nq
 generalize (w.alloc (.cells #[kd,ix,lv, .int .i64 (p:Int), .int .i64 (q:Int), .int .i64 v] 91)).drewN nq=W at *
 have q5:=B0.cell 5
 simp only [zA,zB,zC] at q5
 have HBW:=Lib.hid hbW
 clear hcP hcQ hcP' hcQ' B0 hbW d1 d2 d3 d4 d5 d6
 go_wp2_with fail
 refine (mS _ P (v+1) W (HPI.out.keep HBW.out)).mono ?_
 rintro e w' ⟨rfl,rfl⟩
 simp only
 go_wp2_with fail
 refine (mS _ Q (-(v+1)) w' (HQI.out.keep HBW.out)).mono ?_
 rintro e W ⟨rfl,rfl⟩
 simp only
 generalize Lib.idxOf P (v+1)=i at *
 generalize Lib.idxOf Q (-(v+1))=j at *
 by_cases a1:i<0
 ·have d1:decide (i<0)=true:=by simpa using a1
  clear a1 h
  go_wp2_with fail
  go_ret2
  exact ClRet.no rfl HBW.out
 ·have d1:decide (i<0)=false:=by simpa using a1
  have d2:decide (j<0)=true:=by simp;omega
  clear a1 h
  go_wp2_with fail
  go_ret2
  exact ClRet.no rfl HBW.out
theorem rA (sv ev:Value) (s:Stp) (cs:List (List Int)) (w:World) (hs:IsStp w sv s) (he:Mat w ev cs) (hup:∀c∈cs,Up c) (hl:∀c∈cs,c.length≤500000) :
  Calls Try.prog 90 #[sv,ev] w (ClRet w (resE cs s)):=by
 obtain ⟨lv,rfl, -, -, -,⟨-, -⟩,⟨-, -⟩,⟨-, -⟩⟩:=hs
 obtain ⟨kd,ix,lits,p,q,v⟩:=s
 by_cases h1:p<0∨(cs.length:Int)≤p∨q<0∨(cs.length:Int)≤q
 ·rw [cY h1]
  exact pR _ _ _ _ cs p q v w he h1
 ·obtain ⟨p',rfl⟩:∃p':Nat,p=p':=⟨p.toNat,by omega⟩
  obtain ⟨q',rfl⟩:∃q':Nat,q=q':=⟨q.toNat,by omega⟩
  obtain ⟨P,hP⟩:∃x,cs[p']? = some x:=⟨_,List.getElem?_eq_getElem (by omega)⟩
  obtain ⟨Q,hQ⟩:∃x,cs[q']? = some x:=⟨_,List.getElem?_eq_getElem (by omega)⟩
  rw [oQ (p:=p') (q:=q') rfl rfl hP hQ]
  have uP:=sQ (hup P (List.mem_of_getElem? hP))
  have uQ:=sQ (hup Q (List.mem_of_getElem? hQ))
  by_cases h2:v<0∨1024≤v
  ·have:res P Q v=none:=by unfold res;rw [if_neg (by omega)]
   show Calls _ _ _ _ (ClRet w (res P Q v))
   rw [this]
   exact rT _ _ _ _ cs p' q' v w he (zG.1 hP).1 (zG.1 hQ).1 h2
  ·show Calls _ _ _ _ (ClRet w (res P Q v))
   by_cases h3:v+1∈P
   ·by_cases h4 : -(v+1)∈Q
    ·obtain ⟨T1,T2,e1,e2⟩:=nP P 0 h3
     obtain ⟨T3,T4,e3,e4⟩:=nP Q 0 h4
     have:res P Q v=gB (T1++(T2++(T3++T4))):=by
      unfold res
      rw [if_pos ⟨by omega,by omega,h3,h4⟩,oY uP (i:=T1.length) (by rw [e1];simp),oY uQ (i:=T3.length) (by rw [e3];simp)]
      have a1:P.take T1.length=T1:=by rw [e1];simp
      have a2:P.drop (T1.length+1)=T2:=by rw [e1];simp
      have a3:Q.take T3.length=T3:=by rw [e3];simp
      have a4:Q.drop (T3.length+1)=T4:=by rw [e3];simp
      rw [a1,a2,a3,a4,zZ]
     rw [this]
     exact tH _ _ _ _ cs p' q' v P Q T1 T2 T3 T4 w he hP hQ (by omega) (by omega) (by rw [Lib.idxOf,e2,Nat.zero_add]) (by rw [Lib.idxOf,e4,Nat.zero_add]) e1 e3 (hl P (List.mem_of_getElem? hP)) (hl Q (List.mem_of_getElem? hQ))
    ·have:res P Q v=none:=by unfold res;rw [if_neg (fun h=>h4 h.2.2.2)]
     rw [this]
     exact fT _ _ _ _ cs p' q' v P Q w he hP hQ (by omega) (by omega) (.inr (by rw [Lib.idxOf,lV Q 0 h4];omega))
   ·have:res P Q v=none:=by unfold res;rw [if_neg (fun h=>h3 h.2.2.1)]
    rw [this]
    exact fT _ _ _ _ cs p' q' v P Q w he hP hQ (by omega) (by omega) (.inl (by rw [Lib.idxOf,lV P 0 h3];omega))
end Go.Proofs.Yticieifacalocaa
