/- Neg Cycle Cyclic Derive BoundR CycleR -/
import Derived.Test.YticieifacalocaaTSB23
import Derived.Deep.DeepCutAuto
namespace Go.Proofs.Yticieifacalocaa
open Go.RowKit
structure NS (w wr:World) (gx gb:Nat) (xs bs:List Int):Prop where
 x:Blk wr gx 3 (dL xs)
 b:Blk wr gb 3 (dL bs)
 ne:gx≠gb
 lx:w.heap.size≤gx
 lb:w.heap.size≤gb
 bl:Below w.heap.size w wr
section
variable {w wr w':World} {gx gb:Nat} {xs bs:List Int}
theorem NS.keep (h:NS w wr gx gb xs bs) (hb:Below wr.heap.size wr w'):NS w w' gx gb xs bs :=
 ⟨h.x.keep hb,h.b.keep hb,h.ne,h.lx,h.lb,h.bl.trans (hb.mono h.bl.size)⟩
theorem NS.setX (h:NS w wr gx gb xs bs) (k:Nat) (a:Int):NS w (wr.setCell ⟨gx,k,none⟩ (.int .i64 a)) gx gb (xs.set k a) bs :=
 ⟨h.x.setI k a,h.b.grown (wR _ _ _ _) (by have:=h.ne;simp;omega),h.ne,h.lx,h.lb,h.bl.grown (wR _ _ _ _) h.bl.size fun g e=>by have:=h.lx;injection e with e;omega⟩
theorem NS.setB (h:NS w wr gx gb xs bs) (k:Nat) (a:Int):NS w (wr.setCell ⟨gb,k,none⟩ (.int .i64 a)) gx gb xs (bs.set k a) :=
 ⟨h.x.grown (wR _ _ _ _) (by have:=h.ne;simp;omega),h.b.setI k a,h.ne,h.lx,h.lb,h.bl.grown (wR _ _ _ _) h.bl.size fun g e=>by have:=h.lb;injection e with e;omega⟩
theorem NS.two (n:Nat) (a b:List Int):NS w (((w.alloc (.cells (dL a) 3)).alloc (.cells (dL b) 3)).drewN n) w.heap.size (w.heap.size+1) a b:=by
 have h0:=Blk.new w 3 (dL a)
 have h1:=Blk.new (w.alloc (.cells (dL a) 3)) 3 (dL b)
 have hs:(w.alloc (.cells (dL a) 3)).heap.size=w.heap.size+1:=by simp
 rw [hs] at h1
 exact ⟨(h0.alloc _).drewN n,h1.drewN n,by omega,by omega,by omega,fC (((zO _ _).alloc (Nat.le_refl _) _).alloc (by rw [hs];omega) _) n⟩
theorem NS.drewN (h:NS w wr gx gb xs bs) (n:Nat):NS w (wr.drewN n) gx gb xs bs:=⟨h.x.drewN n,h.b.drewN n,h.ne,h.lx,h.lb,fC h.bl n⟩
theorem NS.swap (h:NS w wr gx gb xs bs):NS w wr gb gx bs xs:=⟨h.b,h.x,h.ne.symm,h.lb,h.lx,h.bl⟩
end
def Round (n:Nat) (M:Int) (l:List Diff) (r:Nat) (xs bs:List Int) (la:Int):Prop :=
 (r=0∧Bell n M l 0 0 xs bs (-1))∨∃q,r=q+1∧Bell n M l q l.length xs bs la∧0≤la
theorem Round.go {n:Nat} {M:Int} {l:List Diff} {r:Nat} {xs bs:List Int} {la:Int} (h:Round n M l r xs bs la):Bell n M l r 0 xs bs (-1):=by
 rcases h with ⟨rfl,h⟩|⟨q,rfl,h,_⟩
 ·exact h
 ·exact h.next
def ksN (bs:List Int) (p:Nat→Int) (n m:Nat):List Nat:=(List.range m).map fun i=>(gi bs (p (n+i))).toNat
theorem ksN_succ (bs:List Int) (p:Nat→Int) (n m:Nat):ksN bs p n (m+1)=ksN bs p n m++[(gi bs (p (n+m))).toNat]:=by
 unfold ksN;rw [List.range_succ,List.map_append];rfl
theorem ksN_sum (l:List Diff) (bs:List Int) (p:Nat→Int) (n m:Nat):csum ((ksN bs p n m).map fun k=>l.getD k ⟨0,0,0⟩)=pO l bs p n m:=by
 induction m with
 | zero=>rfl
 | succ m ih =>
  rw [ksN_succ,List.map_append,pO,←ih]
  unfold csum
  rw [List.map_append,List.sum_append,List.getD_eq_getElem?_getD.symm]
  simp
theorem fE {n d:Nat} {l:List Diff} {bs:List Int} {p:Nat→Int} (hw:Way n l bs p) (d0:0<d) (d2:p (n+d)=p n) (d4:pO l bs p n d<0) :
  (∀k∈ksN bs p n d,k<l.length)∧Cyc ((ksN bs p n d).map fun k=>l.getD k ⟨0,0,0⟩):=by
 have hk:∀i,∃e:Diff,l[(gi bs (p (n+i))).toNat]? = some e∧e.x=p (n+i)∧e.y=p (n+i+1):=by
  intro i
  obtain ⟨_,_,k,e,h1,h2,h3,h4⟩:=hw (n+i)
  exact ⟨e,by rw [h1,Int.toNat_natCast];exact h2,h3,h4⟩
 have hat:∀i,i<d→∃e:Diff,((ksN bs p n d).map fun k=>l.getD k ⟨0,0,0⟩)[i]? = some e∧e.x=p (n+i)∧e.y=p (n+i+1):=by
  intro i hi
  obtain ⟨e,h1,h2,h3⟩:=hk i
  refine ⟨e,?_,h2,h3⟩
  unfold ksN
  rw [List.getElem?_map,List.getElem?_map,uL hi]
  simp [h1]
 have hlen:((ksN bs p n d).map fun k=>l.getD k ⟨0,0,0⟩).length=d:=by simp [ksN]
 refine ⟨fun k hm => ?_,by rw [hlen];exact d0,?_,by rw [ksN_sum];exact d4⟩
 ·unfold ksN at hm
  obtain ⟨i,_,rfl⟩:=List.mem_map.1 hm
  obtain ⟨e,h1,_⟩:=hk i
  exact (zG.1 h1).1
 ·intro i a b hi ha hb
  rw [hlen] at hi hb
  obtain ⟨e,h1,h2,h3⟩:=hat i hi
  rw [h1] at ha;injection ha with ha;subst ha
  rw [h3]
  by_cases hlt:i+1<d
  ·rw [jE hlt] at hb
   obtain ⟨e2,g1,g2,_⟩:=hat (i+1) hlt
   rw [g1] at hb;injection hb with hb;subst hb
   rw [g2,uF]
  ·have:i+1=d:=by omega
   rw [this,Nat.mod_self] at hb
   obtain ⟨e2,g1,g2,_⟩:=hat 0 d0
   rw [g1] at hb;injection hb with hb;subst hb
   rw [g2,uF,this,d2];rfl
def NcRet (w:World) (l:List Diff) (e:Ending) (w':World):Prop :=
 Below w.heap.size w w'∧((e = .returned (.slice none 0 0)∧∃xs:List Int,∀d∈l,gi xs d.x≤gi xs d.y+d.c) ∨
  ∃(v:Value) (ks:List Nat),e = .returned v∧Own w' w.heap.size v (ks.map fun k:Nat=>(k:Int))∧(∀k∈ks,k<l.length)∧Cyc (ks.map fun k=>l.getD k ⟨0,0,0⟩)∧ks.length≤1000)
set_option maxRecDepth 100000 in
set_option maxHeartbeats 2000000 in
theorem ncycle_any (n:Nat) (v:Value) (l:List Diff) (w:World) (M:Int) (hv:Diffs w v l) (hE:cG n M l) (hn:n≤1000) (hl:l.length≤1000) (hM0:0≤M) (hM:M≤1000000) :
  Calls Try.prog 73 #[.int .i64 n,v] w (NcRet w l):=by
 have HV:=Lib.hid hv
 have HE:=Lib.hid hE
 obtain ⟨A,cp,rfl,h1,h2,h3,hr⟩:=hv
 unfold maxLen at h2
 clear h3 hr hE
 have mk:=lP n (by omega)
 go_enter Try.func73,Try.ntmps73
 go_upto_region 1 with fail
 go_cut [5,6] (fun x b wx=>∃gx gb,x = .slice (some ⟨gx,0,none⟩) n n∧b = .slice (some ⟨gb,0,none⟩) n n∧NS w wx gx gb (List.replicate n 0) (List.replicate n 0))
 case first =>
  go_region
  ·go_wp2_with fail
   go_meet
   exact ⟨_,_,rfl,rfl,NS.two _ _ _⟩
  ·go_wp2_with fail
   go_meet
   exact ⟨_,_,rfl,rfl,(NS.two _ _ _).swap⟩
 case rest =>
  obtain ⟨gx,gb,rfl,rfl,hns⟩:=hcut
  clear mk
  go_wp2_with fail
  go_loopw [21] (fun i wr=>∃k:Nat,k≤n∧i = .int .i64 k∧NS w wr gx gb (List.replicate n 0) (lQ 0 n (List.replicate k (-1)))) (fun i _=>n-(intOf i).toNat)
  case atStart=>exact ⟨0,by omega,rfl,hns⟩
  case round =>
   obtain ⟨k,hk,rfl,hs⟩:=hrel
   have HS:=Lib.hid hs
   clear hs hns
   by_cases hlt:k<n
   ·have c1:=HS.out.b.cell k
    have z1:=HS.out.b.frozen k
    have HP:Hid (lQ 0 n (List.replicate k (-1)) |>.set k (-1) |> fun x=>x=lQ 0 n (List.replicate (k+1) (-1))):=by
     refine Lib.hid ?_
     show (lQ 0 n (List.replicate k (-1))).set k (-1)=_
     rw [rC (by simp;omega) (by simp),uI]
    rw [gV (pad_at hlt (by simp))] at c1
    go_wp2_with fail
    go_roundw
    case rel=>exact ⟨k+1,by omega,by go_num,by have:=HS.out.setB k (-1);rwa [show _=_ from HP.out] at this⟩
    case measure=>simp [intOf];omega
   ·have HS2:Hid (NS w wr gx gb (List.replicate n 0) (List.replicate n (-1))):=by
     have h:=HS.out
     rw [show k=n by omega,nI (by simp)] at h
     exact h
    go_wp2_with fail
    go_loopw [8,9] (fun la ro wr=>∃(r:Nat) (a:Int) (xs bs:List Int),r≤n+1∧ro = .int .i64 r∧la = .int .i64 a∧Round n M l r xs bs a∧NS w wr gx gb xs bs) (fun _ ro _=>n+1-(intOf ro).toNat)
    case atStart=>exact ⟨0, -1,_,_,by omega,rfl,rfl, .inl ⟨rfl,Bell.start n M l⟩,HS2.out⟩
    case round =>
     obtain ⟨r,a,xs,bs,hr,rfl,rfl,hro,hs⟩:=hrel
     have HRO:=Lib.hid hro
     have HS3:=Lib.hid hs
     clear hs hro HS2 HS
     by_cases hrn:r≤n
     ·go_wp2_with fail
      go_loopw [8,35] (fun la i wr=>∃(j:Nat) (a:Int) (xs bs:List Int),j≤l.length∧i = .int .i64 j∧la = .int .i64 a ∧ -1≤a∧Bell n M l r j xs bs a∧NS w wr gx gb xs bs) (fun _ i _=>l.length-(intOf i).toNat)
      case atStart=>exact ⟨0, -1,_,_,by omega,rfl,rfl,by omega,HRO.out.go,HS3.out⟩
      case round =>
       obtain ⟨j,a,xs,bs,hj,rfl,rfl,ha1,hbe,hs⟩:=hrel
       have HBE:=Lib.hid hbe
       have HS4:=Lib.hid hs
       clear hs hbe
       by_cases hjl:j<l.length
       ·obtain ⟨d,hd⟩:∃d,l[j]? = some d:=⟨_,List.getElem?_eq_getElem hjl⟩
        have HD:=Lib.hid hd
        obtain ⟨A',c',hv', -, -, -,hrd⟩:=HV.out.keep HS4.out.bl
        injection hv' with e1 e2 e3
        subst e1 e3
        obtain ⟨b1,o1,rfl,hb1,hx1,hy1,hz1⟩:=hrd.diff hd
        obtain ⟨x0,x1,y0,y1,hne,c0,c1⟩:=HE.out j d hd
        obtain ⟨X,hX⟩:∃X:Nat,d.x=X:=⟨d.x.toNat,by omega⟩
        obtain ⟨Y,hY⟩:∃Y:Nat,d.y=Y:=⟨d.y.toNat,by omega⟩
        obtain ⟨lx,lb⟩:=HBE.out.lens
        obtain ⟨p,hp⟩:∃p,xs[X]? = some p:=⟨_,List.getElem?_eq_getElem (by omega)⟩
        obtain ⟨q,hq⟩:∃q,xs[Y]? = some q:=⟨_,List.getElem?_eq_getElem (by omega)⟩
        obtain ⟨t,ht⟩:∃t,bs[X]? = some t:=⟨_,List.getElem?_eq_getElem (by omega)⟩
        have HGX:Hid (gi xs d.x=p):=by
         refine Lib.hid ?_
         unfold gi;rw [hX,Int.toNat_natCast,List.getD_eq_getElem?_getD,hp];rfl
        have HGY:Hid (gi xs d.y=q):=by
         refine Lib.hid ?_
         unfold gi;rw [hY,Int.toNat_natCast,List.getD_eq_getElem?_getD,hq];rfl
        have HQ:Hid (-2000000000000≤q∧q≤0):=by
         refine Lib.hid ?_
         have h:=HBE.out.bound d.y y0 y1
         rw [HGY.out] at h
         have h3:r * l.length≤1000 * 1000:=vW (by omega) hl
         have h4:M * ((r * l.length+j:Nat):Int)≤1000000 * 1001000:=jV hM (by omega) (by omega) (by omega)
         omega
        have hq1:=HQ.out.1
        have hq2:=HQ.out.2
        have HX:=Lib.hid hX
        have HY:=Lib.hid hY
        rw [hX] at hx1
        rw [hY] at hy1
        have X1:X<n:=by omega
        have Y1:Y<n:=by omega
        clear hX hY lx lb hd hrd x0 x1 y0 y1 hne
        have sc:=qW (q+d.c) (by omega)
        have B1:=Lib.hid (Blk.new wr 50 #[.int .i64 X, .int .i64 Y, .int .i64 d.c])
        have HS5:Hid (NS w (wr.alloc (.cells #[.int .i64 X, .int .i64 Y, .int .i64 d.c] 50)) gx gb xs bs):=HS4.out.keep ((zO _ _).alloc (Nat.le_refl _) _)
        by_cases hgt:q+d.c<p
        ·have dg:(q+d.c<p)=True:=by simp [hgt]
         go_upto_region 15 with fail
         generalize wr.alloc (.cells #[.int .i64 X, .int .i64 Y, .int .i64 d.c] 50)=W at *
         have r0:=B1.out.cell 0
         have r1:=B1.out.cell 1
         have r2:=B1.out.cell 2
         have e1:=HS5.out.x.cell X
         have e2:=HS5.out.x.cell Y
         rw [gV hp] at e1
         rw [gV hq] at e2
         simp only [zA,zB,zC] at r0 r1 r2
         have HP:=Lib.hid hp
         have HT:=Lib.hid ht
         clear hp hq ht
         go_quiet (fail)
         go_wp2_with fail
         have z1:=HS5.out.x.frozen X
         have HBY:Hid (Bell n M l r (j+1) (xs.set X (q+d.c)) (bs.set X j) X):=by
          have h:=HBE.out.yes HE.out HD.out (by rw [HGX.out,HGY.out];exact hgt)
          rw [HGY.out,HX.out,Int.toNat_natCast] at h
          exact h
         have HLT:Hid (gx<wr.heap.size):=HS4.out.x.lt
         go_region
         have HS6:=Lib.hid ((HS5.out.drewN (nq+1)).setX X (q+d.c))
         have B2:=Lib.hid ((B1.out.drewN (nq+1)).grown (wR _ gx X (.int .i64 (q+d.c))) (by have:=HLT.out;simp;omega))
         clear r0 r1 r2 e1 e2 z1
         generalize (W.drewN (nq+1)).setCell ⟨gx,X,none⟩ (.int .i64 (q+d.c))=W2 at *
         have r0:=B2.out.cell 0
         simp only [zA,zB] at r0
         have e1:=HS6.out.b.cell X
         have z1:=HS6.out.b.frozen X
         rw [gV HT.out] at e1
         have HLB:Hid (gb<wr.heap.size):=HS4.out.b.lt
         have B3:=(B2.out.grown (wR _ gb X (.int .i64 j)) (by have:=HLB.out;simp;omega)).cell 0
         simp only [zA,zB] at B3
         go_wp2_with fail
         go_roundw
         case rel=>exact ⟨j+1,X,_,_,by omega,by go_num,rfl,by omega,HBY.out,HS6.out.setB X j⟩
         case measure=>simp [intOf];omega
        ·have dg:(q+d.c<p)=False:=by simp [hgt]
         have HBN:Hid (Bell n M l r (j+1) xs bs a):=HBE.out.no hM0 HD.out (by rw [HGX.out,HGY.out];omega)
         go_upto_region 15 with fail
         generalize wr.alloc (.cells #[.int .i64 X, .int .i64 Y, .int .i64 d.c] 50)=W at *
         have r0:=B1.out.cell 0
         have r1:=B1.out.cell 1
         have r2:=B1.out.cell 2
         have e1:=HS5.out.x.cell X
         have e2:=HS5.out.x.cell Y
         rw [gV hp] at e1
         rw [gV hq] at e2
         simp only [zA,zB,zC] at r0 r1 r2
         clear hp hq ht
         go_quiet (fail)
         go_wp2_with fail
         go_roundw
         case rel=>exact ⟨j+1,a,xs,bs,by omega,by go_num,rfl,ha1,HBN.out,HS5.out.drewN _⟩
         case measure=>simp [intOf];omega
       ·have HBN:Hid (Bell n M l r l.length xs bs a):=by
         have h:=HBE.out
         rw [show j=l.length by omega] at h
         exact h
        by_cases hz:0≤a
        ·go_wp2_with fail
         exact ⟨⟨r+1,a,xs,bs,by omega,by go_num,rfl, .inr ⟨r,rfl,HBN.out,hz⟩,HS4.out⟩,by simp [intOf];omega⟩
        ·have HBZ:Hid (Bell n M l r l.length xs bs (-1)):=by
          have h:=HBN.out
          rw [show a = -1 by omega] at h
          exact h
         go_wp2_with fail
         go_ret
         refine ⟨HS4.out.bl, .inl ⟨rfl,xs,fun d hd => ?_⟩⟩
         obtain ⟨k,hk⟩:=qJ hd
         exact HBZ.out.solved hk
     ·have HLA:Hid (Bell n M l n l.length xs bs a∧0≤a):=by
       refine Lib.hid ?_
       rcases HRO.out with ⟨h,_⟩|⟨q,h1,h2,h3⟩
       ·omega
       ·rw [show q=n by omega] at h2;exact ⟨h2,h3⟩
      obtain ⟨p,hp0,hway,d,d0,d1,d2,d3,d4⟩:=HLA.out.1.way HE.out HLA.out.2 (by omega)
      have HW:=Lib.hid hway
      have HD2:=Lib.hid d2
      have HD3:=Lib.hid d3
      have HD4:=Lib.hid d4
      obtain ⟨hl1,hl2⟩:=HLA.out.1.lens
      have HLB:=Lib.hid hl2
      clear hway d2 d3 d4 hl1 hl2
      subst hp0
      go_wp2_with fail
      go_loopw [8,12] (fun la i wr'=>∃k:Nat,k≤n∧i = .int .i64 k∧la = .int .i64 (p k)∧wr'=wr) (fun _ i _=>n-(intOf i).toNat)
      case atStart=>exact ⟨0,by omega,rfl,rfl,rfl⟩
      case round =>
       obtain ⟨k,hk,rfl,rfl,rfl⟩:=hrel
       by_cases hkn:k<n
       ·obtain ⟨w0,w1,kk,e,w2,w3,w4,w5⟩:=HW.out k
        obtain ⟨P,hP⟩:∃P:Nat,p k=P:=⟨(p k).toNat,by omega⟩
        have HY:=Lib.hid w5
        have hbP:bs[P]? = some (kk:Int):=by
         unfold gi at w2
         rw [hP,Int.toNat_natCast,List.getD_eq_getElem?_getD] at w2
         have:P<bs.length:=by rw [HLB.out];omega
         rw [List.getElem?_eq_getElem this] at w2 ⊢
         exact congrArg some w2
        have e1:=HS3.out.b.cell P
        rw [gV hbP] at e1
        have hkl:kk<l.length:=(zG.1 w3).1
        obtain ⟨A',c',hv', -, -, -,hrd⟩:=HV.out.keep HS3.out.bl
        injection hv' with e1 e2 e3
        subst e1 e3
        obtain ⟨b1,o1,rfl,hb1,hx1,hy1,hz1⟩:=hrd.diff w3
        have P1:P<n:=by omega
        rw [hP]
        clear hbP w2 w3 w4 w5 w0 w1 hP hrd hx1 hz1
        go_wp2_with fail
        go_roundw
        case rel=>exact ⟨k+1,by omega,by go_num,by rw [HY.out],trivial⟩
        case measure=>simp [intOf];omega
       ·have hkn':k=n:=by omega
        subst hkn'
        obtain ⟨wo,hwo⟩:∃wo:World,wo=wr:=⟨_,rfl⟩
        subst hwo
        obtain ⟨iI,hiI,hzI0,hzI1,hzI2⟩:=qB gL
        go_wp2_with fail
        go_loopw [13,14] (fun o v wr=>∃m:Nat,m<d∧v = .int .i64 (p (k+m))∧Own wr wo.heap.size o ((ksN bs p k m).map fun k:Nat=>(k:Int))∧Below wo.heap.size wo wr) (fun o _ _=>d-(match o with | .slice _ n _=>n|_=>0))
        case atStart=>exact ⟨0,d0,rfl,⟨zX _ _ _ _,by simp [ksN]⟩,zO _ _⟩
        case round =>
         obtain ⟨m,hm,rfl,how,hbw⟩:=hrel
         have hsz:=hbw.size
         have HO:=Lib.hid how
         have HB:=Lib.hid hbw
         obtain ⟨Ao,co,ho, -, -, -⟩:=wS how.1
         subst ho
         have HSQ:=Lib.hid (HS3.out.keep hbw)
         obtain ⟨w0,w1,kk,e,w2,w3,w4,w5⟩:=HW.out (k+m)
         obtain ⟨P,hP⟩:∃P:Nat,p (k+m)=P:=⟨(p (k+m)).toNat,by omega⟩
         have HY:=Lib.hid w5
         have HKS:Hid (ksN bs p k (m+1)=ksN bs p k m++[kk]):=by
          refine Lib.hid ?_
          rw [ksN_succ,w2,Int.toNat_natCast]
         have HKM:Hid ((ksN bs p k (m+1)).map (fun k:Nat=>(k:Int))=(ksN bs p k m).map (fun k:Nat=>(k:Int))++[(kk:Int)]):=by
          refine Lib.hid ?_
          rw [HKS.out,List.map_append];rfl
         have hlen:((ksN bs p k m).map fun k:Nat=>(k:Int)).length=m:=by simp [ksN]
         generalize (ksN bs p k m).map (fun k:Nat=>(k:Int))=ys at *
         subst hlen
         have hbP:bs[P]? = some (kk:Int):=by
          unfold gi at w2
          rw [hP,Int.toNat_natCast,List.getD_eq_getElem?_getD] at w2
          have:P<bs.length:=by rw [HLB.out];omega
          rw [List.getElem?_eq_getElem this] at w2 ⊢
          exact congrArg some w2
         have e1:=HSQ.out.b.cell P
         rw [gV hbP] at e1
         have hkl:kk<l.length:=(zG.1 w3).1
         have HHE:=Lib.hid w3
         have HBP:=Lib.hid hbP
         have P1:P<k:=by omega
         rw [hP]
         have HPP:=Lib.hid hP
         clear hbP w2 w3 w4 w5 w0 w1 hP how hbw
         go_wp2_with (at_builtin;refine zY _ rfl _ _ 33 rfl wo.heap.size 3 iI (.int .i64 0) 1 8 Try.underlying33 hiI hzI0 hzI1 hzI2 rfl (by decide) _ _ _ rfl (HO.out.1.alloc _) ⟨wr.heap.size,0,none⟩ 1 1 [.int .i64 kk] rfl rfl ?a1 ?a2 ?a3 ?a4 ?a5 ?_)
         case a1=>exact gP wr _ _
         case a2=>intro u hu;simp at hu;subst hu;rfl
         case a3=>unfold maxLen;omega
         case a4=>omega
         case a5=>simp;omega
         intro v' w2 hown' hgrow _ hat
         have HO2:Hid (Own w2 wo.heap.size v' ((ksN bs p k (ys.length+1)).map fun k:Nat=>(k:Int))):=by
          rw [HKM.out]
          refine Lib.hid ⟨by simpa using hown',fun z hz => ?_⟩
          rcases zI.1 hz with hz|hz
          ·exact HO.out.2 z hz
          ·rw [zH] at hz;subst hz;constructor<;>omega
         have HB2:Hid (Below wo.heap.size wo w2):=(HB.out.alloc hsz _).grown hgrow (by simp;omega) (fun g hg=>(HO.out.1.lt g hg).1)
         obtain ⟨A2,c2,hv2, -, -, -⟩:=wS hown'
         subst hv2
         clear hown' hgrow hat e1
         have e1:=(HS3.out.keep HB2.out).b.cell P
         rw [gV HBP.out] at e1
         obtain ⟨A',c',hv', -, -, -,hrd⟩:=HV.out.keep (HS3.out.keep HB2.out).bl
         injection hv' with g1 g2 g3
         subst g1 g3
         obtain ⟨b1,o1,rfl,hb1,hx1,hy1,hz1⟩:=hrd.diff HHE.out
         clear hrd hx1 hz1
         by_cases hend:e.y=p k
         ·have de:(e.y == p k)=true:=by simp [hend]
          have hd1:ys.length+1=d:=by
           refine qD fun hne => ?_
           exact HD3.out (ys.length+1) (by omega) (by omega) (by rw [←uF,←HY.out,hend])
          rw [hd1] at HO2
          clear hend
          go_wp2_with fail
          go_ret
          obtain ⟨k1,k2⟩:=fE HW.out d0 HD2.out HD4.out
          refine ⟨HS3.out.bl.trans (HB2.out.mono HS3.out.bl.size), .inr ⟨_,_,rfl,?_,k1,k2,by simp [ksN];omega⟩⟩
          exact ⟨eL HO2.out.1 HS3.out.bl.size,HO2.out.2⟩
         ·have de:(e.y == p k)=false:=by simp [hend]
          have hd1:ys.length+1<d:=by
           refine qD fun hne=>hend ?_
           rw [HY.out,uF,show ys.length+1=d by omega,HD2.out]
          clear hend
          go_wp2_with fail
          exact ⟨⟨ys.length+1,hd1,by rw [HY.out,uF],HO2.out,HB2.out⟩,by simp only;omega⟩
def idx (n:Nat):List Int:=(List.range n).map (fun i:Nat=>(i:Int))
theorem pT (n:Nat):(idx n).length=n:=by simp [idx]
theorem idx_at {n k:Nat} (h:k<n):(idx n)[k]? = some (k:Int):=by simp [idx,h]
theorem idx_succ (n:Nat):idx (n+1)=idx n++[(n:Int)]:=by simp [idx,List.range_succ]
theorem csum_take {ds:List Diff} {k:Nat} {d:Diff} (h:ds[k]? = some d):csum (ds.take (k+1))=csum (ds.take k)+d.c:=by
 rw [wW h];simp [csum]
theorem csum_bound {ds:List Diff} {M:Int} (h:∀d∈ds, -M≤d.c∧d.c≤M) : -(M * ds.length)≤csum ds∧csum ds≤M * ds.length:=by
 induction ds with
 | nil=>simp [csum]
 | cons d r ih =>
  have h1:=h d (by simp)
  have h2:=ih fun e he=>h e (by simp [he])
  have h3:M * ((d::r).length:Int)=M * (r.length:Int)+M:=by rw [qM,Int.natCast_succ,kH,wM]
  simp only [csum,qF,vI] at h2 ⊢
  omega
theorem tS {ds:List Diff} {k:Nat} (h:fF ds k) {a b:Diff} (ha:ds[k]? = some a) (hb:ds[(k+1) % ds.length]? = some b) (e:a.y=b.x):fF ds (k+1):=by
 intro i x y hi hx hy
 by_cases hk:i=k
 ·subst hk
  rw [ha] at hx;rw [hb] at hy
  injection hx with hx;injection hy with hy
  subst hx hy;exact e
 ·exact h i x y (by omega) hx hy
theorem cycB_no {ds:List Diff} {k:Nat} {a b:Diff} (ha:ds[k]? = some a) (hb:ds[(k+1) % ds.length]? = some b) (e:a.y≠b.x):cycB ds=false:=by
 unfold cycB
 simp only [decide_eq_false_iff_not]
 rintro ⟨_,h,_⟩
 exact e (h k a b (zG.1 ha).1 ha hb)
open Classical in
theorem cycB_yes {ds:List Diff} {k:Nat} (h0:0<ds.length) (h:fF ds k) (hk:ds.length≤k):cycB ds=decide (csum (ds.take k)<0):=by
 unfold cycB
 rw [zS hk]
 refine pM ⟨fun h=>h.2.2,fun h'=>⟨h0,fun i a b hi=>h i a b (by omega),h'⟩⟩
def CycRet (w:World) (b:Bool) (e:Ending) (w':World):Prop:=e = .returned (.bool b)∧Below w.heap.size w w'
def ClRet (w:World) (r:Option (List Int)) (e:Ending) (w':World):Prop :=
 ∃v,e = .returned (.tuple #[v, .bool r.isSome])∧Own w' w.heap.size v (r.getD [])∧Below w.heap.size w w'
theorem ClRet.no {w w':World} {r:Option (List Int)} (h:r=none) (hb:Below w.heap.size w w'):ClRet w r (.returned (.tuple #[.slice none 0 0, .bool false])) w':=by
 subst h
 exact ⟨_,rfl,⟨zX _ _ _ _,by simp⟩,hb⟩
theorem NormRet.cl {w W w':World} {xs:List Int} {r:Option (List Int)} {e:Ending} (h:NormRet W xs e w') (hr:r=gB xs) (hb:Below w.heap.size w W):ClRet w r e w':=by
 obtain ⟨v,he,⟨h1,h2⟩,h3⟩:=h
 subst hr
 exact ⟨v,he,⟨eL h1 hb.size,h2⟩,hb.trans (h3.mono hb.size)⟩
def OkC (ds:List Diff):Prop:=∀d∈ds,d.ok ∧ -1048576≤d.c∧d.c≤1048576
theorem bound_ok {atoms:List Diff} (h:OkC atoms) {x:Int} {d:Diff} (hd:bound atoms x=some d):d.ok ∧ -1048577≤d.c∧d.c≤1048577:=by
 unfold bound at hd
 split at hd
 ·obtain ⟨h1,h2,h3⟩:=h d (List.mem_of_getElem? hd);exact ⟨h1,by omega,by omega⟩
 ·split at hd
  ·obtain ⟨e,he,rfl⟩:=qY.1 hd
   obtain ⟨⟨h1,h2,h4⟩,h3⟩:=h e (List.mem_of_getElem? he)
   refine ⟨⟨h2,h1,?_⟩,?_,?_⟩
   ·constructor<;>simp only [Diff.opp]<;>omega
   ·simp only [Diff.opp];omega
   ·simp only [Diff.opp];omega
  ·cases hd
theorem bnds_take {atoms ds:List Diff} {lits:List Int} {k:Nat} (h:(lits.take k).map (bound atoms)=ds.map some) {x:Int} (hx:lits[k]? = some x) {d:Diff} (hd:bound atoms x=some d):(lits.take (k+1)).map (bound atoms)=(ds++[d]).map some:=by
 rw [wW hx,List.map_append,h];simp [hd]
theorem bnds_ok {atoms ds:List Diff} {lits:List Int} (ha:OkC atoms) (h:lits.map (bound atoms)=ds.map some):∀d∈ds,d.ok ∧ -1048577≤d.c∧d.c≤1048577:=by
 intro d hd
 have h1:some d∈lits.map (bound atoms):=by rw [h];exact List.mem_map.2 ⟨d,hd,rfl⟩
 obtain ⟨x,_,hx⟩:=List.mem_map.1 h1
 exact bound_ok ha hx
theorem oH {atoms:List Diff} {x:Int} {d:Diff} (h:bound atoms x=some d):x ≠ -9223372036854775808∨9223372036854775807<(atoms.length:Int):=by
 by_cases e:x = -9223372036854775808
 ·right
  subst e
  unfold bound at h
  rw [if_neg (by omega),if_pos (by omega)] at h
  obtain ⟨e,he,_⟩:=qY.1 h
  have:=(zG.1 he).1
  omega
 ·exact .inl e
theorem neg_i64 {atoms ds:List Diff} {lits:List Int} (h:bK atoms lits=some ds) {x:Int} (hx:x∈lits) (h1:I64 x) (hat:atoms.length≤1000000):I64 (-x):=by
 have h2:some (bound atoms x)∈(lits.map (bound atoms)).map some:=List.mem_map.2 ⟨_,List.mem_map.2 ⟨x,hx,rfl⟩,rfl⟩
 rw [bH.1 h] at h2
 obtain ⟨y,hy,e⟩:=List.mem_map.1 h2
 injection e with e
 obtain ⟨d,_,rfl⟩:=List.mem_map.1 hy
 rcases oH e.symm with h|h
 ·obtain ⟨h3,h4⟩:=h1;constructor<;>omega
 ·omega
theorem up_len {l:List Int} {a:Nat} {M:Nat} (h:Up l) (hx:∀x∈l,a<x.natAbs∧x.natAbs≤M):l.length+a≤M∨l=[]:=by
 induction l generalizing a with
 | nil=>exact .inr rfl
 | cons x r ih =>
  left
  obtain ⟨h1,h2⟩:=xG.1 h
  have hx0:=hx x (by simp)
  rcases ih (a:=x.natAbs) h2 (fun y hy=>⟨h1 y hy,(hx y (by simp [hy])).2⟩) with h3|h3
  ·rw [qM];omega
  ·subst h3;simp;omega
def Stp.cells (p:Stp × Value):List Value:=[.int .i64 p.1.kind, .int .i64 p.1.index,p.2, .int .i64 p.1.p, .int .i64 p.1.q, .int .i64 p.1.var]
def Stp.ok (s:Stp):Prop:=I64 s.kind∧I64 s.index∧I64 s.p∧I64 s.q∧I64 s.var
def Stps (w:World) (v:Value) (l:List Stp):Prop :=
 ∃(A:Option Addr) (c:Nat) (ps:List (Stp × Value)),l=ps.map (·.1)∧v = .slice A ps.length c∧ps.length≤c∧c≤maxLen∧Rd w A (ps.flatMap Stp.cells)∧∀p∈ps,Ints w p.2 p.1.lits∧p.1.ok
section
variable (i j:Value) (av cv:Value) (ds:List Diff) (w:World)
theorem tQ (hb:Diffs w av ds) :
  Calls Try.prog 33 #[.agg #[i,j,av,cv], .int .i64 0] w fun e w'=>e = .returned (boundVal none)∧Below w.heap.size w w':=by
 obtain ⟨A,c,rfl,h1,h2,h3,hr⟩:=hb
 unfold maxLen at h2
 clear h3 hr
 go_enter Try.func33,Try.ntmps33
 go_wp2
 go_returns
 exact ⟨rfl,by go_grown⟩
theorem rbound_pos (n:Nat) (d:Diff) (hb:Diffs w av ds) (hd:ds[n]? = some d) (hl:n+1≤9223372036854775807) :
  Calls Try.prog 33 #[.agg #[i,j,av,cv], .int .i64 ((n:Int)+1)] w fun e w'=>e = .returned (boundVal (some d))∧Below w.heap.size w w':=by
 obtain ⟨A,c,rfl,h1,h2,h3,hr⟩:=hb
 unfold maxLen at h2
 have hlt:n<ds.length:=(zG.1 hd).1
 obtain ⟨b1,o1,rfl,hb1,hc1,hc2,hc3⟩:=hr.diff hd
 obtain ⟨x,y,z⟩:=d
 clear hd h3 hr
 have hz:(((n:Int)+1) == 0)=false:=by simp;omega
 have hz2:decide ((ds.length:Int)<(n:Int)+1)=false:=by simp;omega
 have hz3:decide ((n:Int)+1 < -(ds.length:Int))=false:=by simp;omega
 go_enter Try.func33,Try.ntmps33
 go_wp2
 go_returns
 exact ⟨rfl,by go_grown⟩
theorem rbound_over (n:Nat) (hb:Diffs w av ds) (hge:ds.length≤n) (hl:n+1≤9223372036854775807) :
  Calls Try.prog 33 #[.agg #[i,j,av,cv], .int .i64 ((n:Int)+1)] w fun e w'=>e = .returned (boundVal none)∧Below w.heap.size w w':=by
 obtain ⟨A,c,rfl,h1,h2,h3,hr⟩:=hb
 unfold maxLen at h2
 clear h3 hr
 have hz:(((n:Int)+1) == 0)=false:=by simp;omega
 have hz2:decide ((ds.length:Int)<(n:Int)+1)=true:=by simp;omega
 go_enter Try.func33,Try.ntmps33
 go_wp2
 go_returns
 exact ⟨rfl,by go_grown⟩
theorem rbound_neg (n:Nat) (d:Diff) (hb:Diffs w av ds) (hd:ds[n]? = some d) (hl:n+1≤9223372036854775808) (hC : -9223372036854775807≤d.c) :
  Calls Try.prog 33 #[.agg #[i,j,av,cv], .int .i64 (-((n:Int)+1))] w fun e w'=>e = .returned (boundVal (some d.opp))∧Below w.heap.size w w':=by
 obtain ⟨A,c,rfl,h1,h2,h3,hr⟩:=hb
 unfold maxLen at h2
 have hlt:n<ds.length:=(zG.1 hd).1
 obtain ⟨b1,o1,rfl,hb1,hc1,hc2,hc3⟩:=hr.diff hd
 obtain ⟨x,y,z⟩:=d
 obtain ⟨k1,k2⟩:=(h3 _ (List.mem_of_getElem? hd)).2.2
 simp only at hC k1 k2
 clear hd h3 hr
 have hz:((-((n:Int)+1)) == 0)=false:=by simp;omega
 have hz2:decide ((ds.length:Int) < -((n:Int)+1))=false:=by simp;omega
 have hz3:decide (-((n:Int)+1) < -(ds.length:Int))=false:=by simp;omega
 go_enter Try.func33,Try.ntmps33
 go_wp2
 go_returns
 exact ⟨rfl,by go_grown⟩
theorem pH (n:Nat) (hb:Diffs w av ds) (hge:ds.length≤n) (hl:n+1≤9223372036854775808) :
  Calls Try.prog 33 #[.agg #[i,j,av,cv], .int .i64 (-((n:Int)+1))] w fun e w'=>e = .returned (boundVal none)∧Below w.heap.size w w':=by
 obtain ⟨A,c,rfl,h1,h2,h3,hr⟩:=hb
 unfold maxLen at h2
 clear h3 hr
 have hz:((-((n:Int)+1)) == 0)=false:=by simp;omega
 have hz2:decide ((ds.length:Int) < -((n:Int)+1))=false:=by simp;omega
 have hz3:decide (-((n:Int)+1) < -(ds.length:Int))=true:=by simp;omega
 go_enter Try.func33,Try.ntmps33
 go_wp2
 go_returns
 exact ⟨rfl,by go_grown⟩
theorem fG (lit:Int) (hb:Diffs w av ds) (hC:∀d∈ds, -9223372036854775807≤d.c) (hl:I64 lit) :
  Calls Try.prog 33 #[.agg #[i,j,av,cv], .int .i64 lit] w fun e w'=>e = .returned (boundVal (bound ds lit))∧Below w.heap.size w w':=by
 obtain ⟨hl1,hl2⟩:=hl
 rcases bR lit with rfl|⟨n,rfl⟩|⟨n,rfl⟩
 ·exact tQ i j av cv ds w hb
 ·rw [cO]
  rcases xZ n ds.length with h|h
  ·rw [List.getElem?_eq_getElem h];exact rbound_pos i j av cv ds w n _ hb (List.getElem?_eq_getElem h) (by omega)
  ·rw [zZ h];exact rbound_over i j av cv ds w n hb h (by omega)
 ·rw [cK]
  rcases xZ n ds.length with h|h
  ·rw [List.getElem?_eq_getElem h];exact rbound_neg i j av cv ds w n _ hb (List.getElem?_eq_getElem h) (by omega) (hC _ (yH h))
  ·rw [zZ h];exact pH i j av cv ds w n hb h (by omega)
end
set_option maxRecDepth 100000 in
set_option maxHeartbeats 2000000 in
theorem rcycle_any (lv cv:Value) (ds:List Diff) (w:World) (hl:Diffs w lv ds) (hc:Ints w cv (idx ds.length)) (hM:∀d∈ds, -1048577≤d.c∧d.c≤1048577) (hn:ds.length≤1000000) :
  Calls Try.prog 91 #[lv,cv] w (CycRet w (cycB ds)):=by
 obtain ⟨A,c,rfl,h1,h2,h3,hr⟩:=hl
 obtain ⟨A2,c2,rfl,g1,g2,g3,hr2⟩:=hc
 rw [pT] at g1 ⊢
 unfold maxLen at h2 g2
 have HR:=Lib.hid hr
 have HR2:=Lib.hid hr2
 have HM:=Lib.hid hM
 clear h3 hr g3 hr2 hM
 have HC2:Hid (∀k,k<ds.length→∃b2 o2,A2=some ⟨b2,o2,none⟩∧w.cell? ⟨b2,o2+k,none⟩=some (.int .i64 (k:Int))):=by
  intro k hk
  obtain ⟨b2,o2,hA2,hb2,hc2⟩:=HR2.out (by simp [pT];omega)
  exact ⟨b2,o2,hA2,hc2 k _ (by rw [List.getElem?_map,idx_at hk];rfl)⟩
 go_enter Try.func91,Try.ntmps91
 go_wp2_with fail
 go_loopw [5,11] (fun s i wr=>∃(k n:Nat),k≤ds.length∧i = .int .i64 k∧s = .int .i64 (csum (ds.take k))∧fF ds k∧wr=w.drewN n) (fun _ i _=>ds.length-(intOf i).toNat)
 case atStart=>exact ⟨0,0,by omega,rfl,rfl,fun i a b h=>by omega,rfl⟩
 case round =>
  obtain ⟨j,n,hj,rfl,rfl,hlink,rfl⟩:=hrel
  have HLK:=Lib.hid hlink
  have hsb:=csum_bound (M:=1048577) (ds:=ds.take j) fun d hd=>HM.out d (zN hd)
  have hlen:(ds.take j).length≤j:=kE _ _
  have hs1 : -1048577000000≤csum (ds.take j)∧csum (ds.take j)≤1048577000000:=by omega
  obtain ⟨hs1,hs2⟩:=hs1
  clear hlink hsb hlen
  by_cases hjt:j<ds.length
  ·obtain ⟨a,ha⟩:∃x,ds[j]? = some x:=⟨_,List.getElem?_eq_getElem hjt⟩
   have hrl:(j+1) % ds.length<ds.length:=Nat.mod_lt _ (by omega)
   obtain ⟨b,hb⟩:∃x,ds[(j+1) % ds.length]? = some x:=⟨_,List.getElem?_eq_getElem hrl⟩
   obtain ⟨b1,o1,rfl,hb1,hx1,hy1,hz1⟩:=HR.out.diff ha
   obtain ⟨b1',o1',hA',hb1',hx2,hy2,hz2⟩:=HR.out.diff hb
   injection hA' with hA'
   injection hA' with e1 e2
   subst e1 e2
   obtain ⟨b2,o2,rfl,hcell⟩:=HC2.out j hjt
   obtain ⟨b2',o2',hA2',hcell2⟩:=HC2.out _ hrl
   injection hA2' with hA2'
   injection hA2' with e1 e2
   subst e1 e2
   have hca1:=(HM.out a (List.mem_of_getElem? ha)).1
   have hca2:=(HM.out a (List.mem_of_getElem? ha)).2
   have HLS:Hid (a.y=b.x→fF ds (j+1)):=fun e=>tS HLK.out ha hb e
   have HLN:Hid (a.y≠b.x→cycB ds=false):=fun e=>cycB_no ha hb e
   have HCS:=Lib.hid (csum_take ha)
   generalize hr:(j+1) % ds.length=r at *
   have y1:IntKind.i64.wrap ((j:Int)+1)=(j:Int)+1:=qW _ (by omega)
   have y2:((j:Int)+1).tmod (ds.length:Int)=(r:Int):=by rw [qU (by omega),←hr];simp
   have y2b:((j:Int)+1) % (ds.length:Int)=(r:Int):=by rw [←hr];simp
   have y3:IntKind.i64.wrap (r:Int)=(r:Int):=qW _ (by omega)
   have y4:¬ds.length=0:=by omega
   have d1:decide ((r:Int)<0)=false:=by simp
   have d2:decide ((ds.length:Int)≤(r:Int))=false:=by simp;omega
   clear ha hb hr hb1' hx1 hz2 hy2
   by_cases e:a.y=b.x
   ·have de:(a.y != b.x)=false:=by simp [e]
    have HN:=Lib.hid (HLS.out e)
    have HE:=Lib.hid e
    clear e
    go_wp2_with fail
    go_quiet (fail)
    clear y1 y2 y2b y3 y4
    go_wp2_with fail
    go_roundw
    case rel=>exact ⟨j+1,_,by omega,by go_num,by rw [HCS.out],HN.out,rfl⟩
    case measure=>simp [intOf];omega
   ·have de:(a.y != b.x)=true:=by simp [e]
    have HE:=Lib.hid (HLN.out e)
    clear e
    go_wp2_with fail
    go_quiet (fail)
    clear y1 y2 y2b y3 y4
    go_wp2_with fail
    go_ret
    exact ⟨by rw [HE.out];rfl,fC (fC (zO _ _) _) _⟩
  ·by_cases h0:ds.length=0
   ·have HC:Hid (cycB ds=false):=by
     refine Lib.hid ?_
     unfold cycB;simp only [decide_eq_false_iff_not];rintro ⟨h,_⟩;omega
    have d0:decide ((0:Int)<(ds.length:Int))=false:=by simp;exact yG h0
    have d0':decide (0<ds.length)=false:=by simp;exact yG h0
    clear h0
    go_wp2_with fail
    go_ret
    exact ⟨by rw [HC.out];rfl,fC (zO _ _) _⟩
   ·have HE:=Lib.hid (cycB_yes (by omega) HLK.out (by omega))
    have d0:decide ((0:Int)<(ds.length:Int))=true:=by simp;omega
    have d0':decide (0<ds.length)=true:=by simp;omega
    go_wp2_with fail
    go_ret
    exact ⟨by rw [HE.out];rfl,fC (zO _ _) _⟩
end Go.Proofs.Yticieifacalocaa
