/- LawSMo -/
import Derived.Test.YticieifacalocaaTSH54
import Derived.Test.YticieifacalocaaTSH52
namespace Go.Proofs.Yticieifacalocaa
open Go.RowKit
def PF (atoms:List Diff) (xs:List Int) (bs:List Bool) (j:Nat):Prop:=∀i d,i<j→atoms[i]? = some d→bs[i]? = some (decide (gi xs d.x-gi xs d.y≤d.c))
theorem PF.one {atoms:List Diff} {xs:List Int} {bs:List Bool} {j:Nat} (h:PF atoms xs bs j) (ha:atoms.length≤j) (v:Bool):PF atoms xs (bs.set j v) (j+1):=fun i d hi hd=>by
 have:=(zG.1 hd).1
 rw [yQ (by omega)]
 exact h i d (by omega) hd
theorem PF.two {atoms:List Diff} {xs:List Int} {bs:List Bool} {j:Nat} (h:PF atoms xs bs j) (hj:j<bs.length) {d:Diff} (hd:atoms[j]? = some d) (u:Bool):PF atoms xs ((bs.set j u).set j (decide (gi xs d.x-gi xs d.y≤d.c))) (j+1):=fun i e hi he=>by
 by_cases hij:i=j
 ·subst hij
  rw [hd] at he
  injection he with he
  subst he
  rw [xM (by simpa using hj)]
 ·rw [yQ (kY hij),yQ (kY hij)]
  exact h i e (by omega) he
theorem PF.fits {atoms:List Diff} {xs:List Int} {bs:List Bool} {j:Nat} (h:PF atoms xs bs j) (ha:atoms.length≤j):pA atoms bs xs:=fun i d hd=>h i d (by have:=(zG.1 hd).1;omega) hd
theorem sgn_hold2 {bs:List Bool} {m:Nat} {t:Bool} (h:bs[m]? = some t):holds bs (if t=true then (m:Int)+1 else -((m:Int)+1))=true:=by
 cases t with
 | true=>rw [if_pos rfl,bF,List.getD_eq_getElem?_getD,h];rfl
 | false=>rw [if_neg (by simp),bC,h];rfl
theorem one_blk {w:World} {g:Nat} {t:TypeId} {u:Value} (h:Blk w g t #[u]):∀j x,[u][j]? = some x→w.cell? ((⟨g,0,none⟩:Addr).add j)=some x:=by
 intro j x hx
 obtain rfl:j=0:=by cases j with|zero=>rfl|succ j=>simp at hx
 have e:=h.cell 0
 simp at hx e
 subst hx
 simpa [Addr.add] using e
structure CW (w wr:World) (f:Form) (bk gk X:Nat) (A:Option Addr) (n cc nb ni gm gb gx:Nat) (av:Value) (bs:List Bool) (xs:List Int) (us:List Value) (xss:List (List Int)) (i:Nat):Prop where
 r:FR wr gk X f.atoms av (.slice A n cc) us xss
 un:us.length=n
 xn:xss.length=n
 hold:∀j c,xss[j]? = some c→j<i→c.any (holds bs)=true
 len:∀j c,xss[j]? = some c→i≤j→c.length≤4
 ok:∀c∈xss,c.length≤5∧∀x∈c,dF f.bools x=true
 fk:Blk wr bk 29 #[.int .i64 (ni:Int), .int .i64 (nb:Int),av, .slice A n cc]
 md:Blk wr gm 35 #[.slice (some ⟨gb,0,none⟩) nb nb, .slice (some ⟨gx,0,none⟩) ni ni]
 bb:Blk wr gb 4 (eZ bs)
 bx:Blk wr gx 3 (bU xs)
 bl:Below w.heap.size w wr
 lt:X<wr.heap.size
section
variable {w wr w1:World} {f:Form} {bk gk X g n cc nb ni gm gb gx i:Nat} {A:Option Addr} {av u:Value} {bs:List Bool} {xs c2:List Int} {us:List Value} {xss:List (List Int)}
theorem CW.keep (h:CW w wr f bk gk X A n cc nb ni gm gb gx av bs xs us xss i) (hb:Below wr.heap.size wr w1):CW w w1 f bk gk X A n cc nb ni gm gb gx av bs xs us xss i :=
 ⟨h.r.keep hb,h.un,h.xn,h.hold,h.len,h.ok,h.fk.keep hb,h.md.keep hb,h.bb.keep hb,h.bx.keep hb,h.bl.trans (hb.mono h.bl.size),zZ h.lt hb.size⟩
theorem CW.skip (h:CW w wr f bk gk X A n cc nb ni gm gb gx av bs xs us xss i) {c:List Int} (hc:xss[i]? = some c) (ha:c.any (holds bs)=true):CW w wr f bk gk X A n cc nb ni gm gb gx av bs xs us xss (i+1) :=
 ⟨h.r,h.un,h.xn,fun j d hd hj=>by
  by_cases e:j=i
  ·subst e;rw [hc] at hd;injection hd with hd;rw [←hd];exact ha
  ·exact h.hold j d hd (by omega),fun j d hd hj=>h.len j d hd (by omega),h.ok,h.fk,h.md,h.bb,h.bx,h.bl,h.lt⟩
theorem CW.set (h:CW w wr f bk gk X (some ⟨g,0,none⟩) n cc nb ni gm gb gx av bs xs us xss i) (hi:i<n) (hb:Below wr.heap.size wr w1) (hu:IntsO w1 (fun b=>wr.heap.size≤b) u c2) (ha:c2.any (holds bs)=true) (hl:c2.length≤5) (ho:∀x∈c2,dF f.bools x=true)
  (h1:g≠bk) (h2:g≠gm) (h3:g≠gb) (h4:g≠gx) (hg:w.heap.size≤g):CW w (w1.setCell ⟨g,i,none⟩ u) f bk gk X (some ⟨g,0,none⟩) n cc nb ni gm gb gx av bs xs (us.set i u) (xss.set i c2) (i+1):=by
 have k:=h.keep hb
 have hr:=h.r
 rw [←h.un] at hr
 have hs:=FR.setC hr hb hu h.lt i
 rw [h.un] at hs
 have gr:=jY w1 g i u
 refine ⟨hs,by rw [zX];exact h.un,by rw [zX];exact h.xn,fun j d hd hj => ?_,fun j d hd hj => ?_,fun d hd => ?_,k.fk.grown gr (by simpa using kY h1),k.md.grown gr (by simpa using kY h2),k.bb.grown gr (by simpa using kY h3),k.bx.grown gr (by simpa using kY h4),k.bl.setCell hg _,by simpa using k.lt⟩
 ·by_cases e:j=i
  ·subst e
   rw [xM (by rw [h.xn];exact hi)] at hd
   injection hd with hd
   rw [←hd];exact ha
  ·rw [yQ (kY e)] at hd
   exact h.hold j d hd (by omega)
 ·rw [yQ (by omega)] at hd
  exact h.len j d hd (by omega)
 ·rcases xB hd with hd|rfl
  ·exact h.ok d hd
  ·exact ⟨hl,ho⟩
end
set_option maxRecDepth 100000 in
set_option maxHeartbeats 16000000 in
theorem lawSMo (pv iv bv:Value) (a b c:Int) (L ints:List Int) (flip:List Bool) (w:World) (hp:sG w pv a b c L) (hx:I8s w iv ints) (hb:Bools w bv flip) :
  Calls Try.prog 6 #[pv,iv,bv] w fun e w'=>e = .returned (.bool true)∧Below w.heap.size w w':=by
 obtain ⟨iI,hiI,hzI0,hzI1,hzI2⟩:=qD wV
 have HP:=Lib.hid hp
 have HBS:=Lib.hid hb
 have HXS:=Lib.hid hx
 obtain ⟨nv,rfl, -, -, -,hL⟩:=hp
 obtain ⟨An,cn,rfl, -, -, -, -⟩:=hL
 obtain ⟨Ab,cb,rfl,b1,b2, -⟩:=hb
 obtain ⟨Ax,cx,rfl,x1,x2, -, -⟩:=hx
 unfold maxLen at b2 x2
 have HB:Hid (Below w.heap.size w (w.alloc (.cells #[.int .u8 a, .int .u8 b, .int .u8 c, .slice An L.length cn] 25))):=Lib.hid ((zR _ _).alloc (Nat.le_refl _) _)
 have HWS:Hid (w.heap.size<(w.alloc (.cells #[.int .u8 a, .int .u8 b, .int .u8 c, .slice An L.length cn] 25)).heap.size):=Lib.hid (by simp)
 go_enter Try.func6,Try.ntmps6
 go_wp2_with fail
 generalize w.alloc (.cells #[.int .u8 a, .int .u8 b, .int .u8 c, .slice An L.length cn] 25)=W at *
 refine (nY _ a b c L _ ?hp).mono ?_
 case hp=>obtain ⟨nv,e1,e2⟩:=HP.out;exact ⟨_,rfl,e2.1,e2.2.1,e2.2.2.1,by injection e1 with e1;simp only [Array.mk.injEq,List.cons.injEq,and_true,true_and] at e1;rw [e1];exact e2.2.2.2.keep HB.out⟩
 rintro e w2 ⟨av,cv,us0,f,rfl,hfr,hsm,hb2⟩
 have HB2:=Lib.hid (HB.out.trans (hb2.mono HB.out.size))
 have HSM:=Lib.hid hsm
 have HUL:=Lib.hid hfr.m.2.1
 have HSZ:Hid (W.heap.size≤w2.heap.size):=Lib.hid hb2.size
 obtain ⟨Aa,ca,rfl, -, -, -⟩:=wB hfr.a
 obtain ⟨Ac,cc,rfl, -, -, -⟩:=wB hfr.m.1
 have HFR:=Lib.hid hfr
 obtain ⟨n,hn⟩:∃n,n=us0.length:=⟨_,rfl⟩
 have HN:=Lib.hid hn
 obtain ⟨nb,hnb⟩:∃nb:Nat,f.bools=nb:=⟨f.bools.toNat,by obtain ⟨h1,h2,h3,_⟩:=hsm;omega⟩
 obtain ⟨ni,hni⟩:∃ni:Nat,f.ints=ni:=⟨f.ints.toNat,by obtain ⟨h1,h2,h3,_⟩:=hsm;omega⟩
 have HNB:=Lib.hid hnb
 have HNI:=Lib.hid hni
 have hnb18:nb≤18:=by obtain ⟨h1,h2,h3,_⟩:=hsm;omega
 have hnb0:0<nb:=by obtain ⟨h1,h2,h3,_⟩:=hsm;omega
 have hni6:ni≤6:=by obtain ⟨h1,h2,h3,_⟩:=hsm;omega
 have hal:f.atoms.length≤nb:=by obtain ⟨h1,h2,h3,_⟩:=hsm;omega
 have hn40:n≤40:=by have h1:=hfr.m.2.1;obtain ⟨_,_,_,h4,_⟩:=hsm;omega
 have mk:=mk_ints ni (by omega)
 have mkb:=mk_bools nb (by omega)
 rw [hnb,hni,←hn]
 rw [←hn] at HFR
 clear hb2 hsm hnb hni hfr hn
 go_upto_region 2 with fail
 obtain ⟨w0,hw0⟩:∃w0:World,w0=w2.alloc (.cells #[.int .i64 (ni:Int), .int .i64 (nb:Int), .slice Aa f.atoms.length ca, .slice Ac n cc] 29):=⟨_,rfl⟩
 have hbl02:Below w2.heap.size w2 w0:=by rw [hw0];exact (zR _ _).alloc (Nat.le_refl _) _
 have hbl0:Below w.heap.size w w0:=HB2.out.trans (hbl02.mono HB2.out.size)
 have B1:Blk w0 w2.heap.size 29 #[.int .i64 (ni:Int), .int .i64 (nb:Int), .slice Aa f.atoms.length ca, .slice Ac n cc]:=by rw [hw0];exact Blk.new _ _ _
 have HFR0:=Lib.hid (HFR.out.keep hbl02)
 rw [←hw0]
 have HB0:=Lib.hid hbl0
 have HB1:=Lib.hid B1
 have r0:=B1.cell 0
 have r1:=B1.cell 1
 simp only [zA,zB,zC] at r0 r1
 have hlt0:=B1.lt
 clear hw0 hbl0 B1 hbl02
 go_cut [8] (fun p wx=>∃gm gb gx,p = .pointer (some ⟨gm,0,none⟩)∧MD w0 wx nb ni gm gb gx (List.replicate nb false) (List.replicate ni 0))
 case first =>
  go_region
  all_goals
   go_wp2_with fail
   go_meet
   obtain ⟨h0,h1,h2,h3⟩:=three w0 _ _ _ _ _ _
   first
    | exact ⟨_,_,_,rfl,⟨h0,h1,h2,by omega,by omega,by omega,by omega,by omega,by omega,h3⟩⟩
    | exact ⟨_,_,_,rfl,⟨h0,h2,h1,by omega,by omega,by omega,by omega,by omega,by omega,h3⟩⟩
    | exact ⟨_,_,_,rfl,⟨h1,h0,h2,by omega,by omega,by omega,by omega,by omega,by omega,h3⟩⟩
    | exact ⟨_,_,_,rfl,⟨h1,h2,h0,by omega,by omega,by omega,by omega,by omega,by omega,h3⟩⟩
    | exact ⟨_,_,_,rfl,⟨h2,h0,h1,by omega,by omega,by omega,by omega,by omega,by omega,h3⟩⟩
    | exact ⟨_,_,_,rfl,⟨h2,h1,h0,by omega,by omega,by omega,by omega,by omega,by omega,h3⟩⟩
 case rest =>
  obtain ⟨gm,gb,gx,rfl,hmd⟩:=hcut
  have HM:=Lib.hid hmd
  have m1:=hmd.m.cell 1
  simp only [zA,zB,zC] at m1
  clear mk mkb hmd r0 r1
  go_wp2_with fail
  clear m1
  go_loopw [30] (fun i wr=>∃(k:Nat) (xs:List Int),k≤ni∧i = .int .i64 k∧xs.length=ni∧(∀x∈xs, -128≤x∧x≤127)∧MD w0 wr nb ni gm gb gx (List.replicate nb false) xs) (fun i _=>ni-(intOf i).toNat)
  case atStart=>exact ⟨0,_,by omega,rfl,by simp,fun x hx=>by rw [List.eq_of_mem_replicate hx];omega,HM.out⟩
  case round =>
   obtain ⟨k,xs,hk,rfl,hxl,hxr,hmd⟩:=hrel
   have HXL:=Lib.hid hxl
   have HXR:=Lib.hid hxr
   have HM2:=Lib.hid hmd
   have m0:=hmd.m.cell 0
   have m1:=hmd.m.cell 1
   simp only [zA,zB,zC] at m0 m1
   clear hxl hxr hmd HM
   by_cases hkn:k<ni
   ·by_cases hki:k<ints.length
    ·obtain ⟨y,hy⟩:∃y,ints[k]? = some y:=⟨_,List.getElem?_eq_getElem hki⟩
     obtain ⟨A',c',ev, -, -,hrg,hrd⟩:=(HXS.out.keep HB0.out).keep HM2.out.bl
     injection ev with e1 _ e2
     subst e1 e2
     obtain ⟨b1',o1,rfl,hb1',hc1⟩:=hrd.at_ (u := .int .i8 y) (by rw [List.getElem?_map,hy];rfl)
     obtain ⟨y1,y2⟩:=hrg y (List.mem_of_getElem? hy)
     obtain ⟨z,hz⟩:∃z,xs[k]? = some z:=⟨_,List.getElem?_eq_getElem (by have:=HXL.out;omega)⟩
     have c1:=HM2.out.x.cell k
     rw [iM hz] at c1
     have z1:=HM2.out.x.frozen k
     clear hy hz hrg hrd m0
     go_upto_region 7 with fail
     go_still_tail 9,(by kernel_rfl)
     change wpList _ _ _ _ _ wr.drew
     have HM3:Hid (MD w0 (wr.drew.setCell ⟨gx,k,none⟩ (.int .i64 y)) nb ni gm gb gx (List.replicate nb false) (xs.set k y)):=Lib.hid ((HM2.out.drewN 1).setX k y)
     have HXR2:Hid (∀x∈xs.set k y, -128≤x∧x≤127):=Lib.hid fun x hx=>by
      rcases xB hx with h|rfl
      ·exact HXR.out x h
      ·exact ⟨y1,y2⟩
     go_wp2_with fail
     go_roundw
     case rel=>exact ⟨k+1,_,by omega,by go_num,by rw [zX];exact HXL.out,HXR2.out,HM3.out⟩
     case measure=>simp [intOf];omega
    ·go_wp2_with fail
     go_roundw
     case rel=>exact ⟨k+1,xs,by omega,by go_num,HXL.out,HXR.out,HM2.out⟩
     case measure=>simp [intOf];omega
   ·obtain ⟨wo,hwo⟩:∃wo:World,wo=wr:=⟨_,rfl⟩
    subst hwo
    go_wp2_with fail
    clear m0 m1
    go_loopw [50] (fun i wr=>∃(k:Nat) (bs:List Bool),k≤nb∧i = .int .i64 k∧bs.length=nb∧Hid (PF f.atoms xs bs k)∧MD w0 wr nb ni gm gb gx bs xs) (fun i _=>nb-(intOf i).toNat)
    case atStart=>exact ⟨0,_,by omega,rfl,by simp,Lib.hid (fun i d hi=>absurd hi (Nat.not_lt_zero _)),HM2.out⟩
    case round =>
     obtain ⟨j,bs,hj,rfl,hbl,HPF,hmd⟩:=hrel
     have HBL:=Lib.hid hbl
     have HM3:=Lib.hid hmd
     have m0:=hmd.m.cell 0
     have m1:=hmd.m.cell 1
     have HB3:=Lib.hid (HB1.out.below hmd.bl HB1.out.lt)
     have t2:=HB3.out.cell 2
     simp only [zA,zB,zC] at m0 m1 t2
     clear hbl hmd HM2
     by_cases hjn:j<nb
     ·obtain ⟨z,hz⟩:∃z,bs[j]? = some z:=⟨_,List.getElem?_eq_getElem (by have:=HBL.out;omega)⟩
      have c1:=HM3.out.b.cell j
      rw [nW hz] at c1
      have z1:=HM3.out.b.frozen j
      have HJ:=Lib.hid hjn
      clear hz
      obtain ⟨v,hv⟩:∃v:Bool,v=if h:j<flip.length then flip[j] else false:=⟨_,rfl⟩
      obtain ⟨b4,hb4⟩:∃b4,b4=bs.set j v:=⟨_,rfl⟩
      have HBL4:Hid (b4.length=nb):=Lib.hid (by rw [hb4,zX];exact HBL.out)
      have HB4:Hid (∃u,b4=bs.set j u):=Lib.hid ⟨_,hb4⟩
      have HM4:Hid (MD w0 (wr.drew.setCell ⟨gb,j,none⟩ (.bool v)) nb ni gm gb gx b4 xs):=Lib.hid (by rw [hb4];exact (HM3.out.drewN 1).setB j v)
      clear hb4
      have hcs:(flip[j]? = some true∧v=true)∨(flip[j]? = some false∧v=false)∨(¬j<flip.length∧v=false):=by
       by_cases hjb:j<flip.length
       ·rw [dif_pos hjb] at hv
        have hy:flip[j]? = some v:=by rw [hv];exact List.getElem?_eq_getElem hjb
        cases v with
        | true=>exact .inl ⟨hy,rfl⟩
        | false=>exact .inr (.inl ⟨hy,rfl⟩)
       ·rw [dif_neg hjb] at hv
        exact .inr (.inr ⟨hjb,hv⟩)
      clear hv
      rcases hcs with ⟨hy,rfl⟩|⟨hy,rfl⟩|⟨hjb,rfl⟩
      focus
       have hjb:j<flip.length:=(zG.1 hy).1
       obtain ⟨A',c',ev, -, -,hrd⟩:=(HBS.out.keep HB0.out).keep HM3.out.bl
       injection ev with e1 _ e2
       subst e1 e2
       obtain ⟨b1',o1,rfl,hb1',hc1⟩:=hrd.bool hy
       clear hy hrd
       go_upto_region 12 with fail
       go_still_tail 14,(by kernel_rfl)
       change wpList _ _ _ _ _ wr.drew
       go_upto_region 13 with fail
       change Code.wp _ _ _ _ (wr.drew.setCell ⟨gb,j,none⟩ (.bool true))
       generalize wr.drew.setCell ⟨gb,j,none⟩ (.bool true)=w4 at *
      rotate_left
      focus
       have hjb:j<flip.length:=(zG.1 hy).1
       obtain ⟨A',c',ev, -, -,hrd⟩:=(HBS.out.keep HB0.out).keep HM3.out.bl
       injection ev with e1 _ e2
       subst e1 e2
       obtain ⟨b1',o1,rfl,hb1',hc1⟩:=hrd.bool hy
       clear hy hrd
       go_upto_region 12 with fail
       go_still_tail 14,(by kernel_rfl)
       change wpList _ _ _ _ _ wr.drew
       go_upto_region 13 with fail
       change Code.wp _ _ _ _ (wr.drew.setCell ⟨gb,j,none⟩ (.bool false))
       generalize wr.drew.setCell ⟨gb,j,none⟩ (.bool false)=w4 at *
      rotate_left
      focus
       go_upto_region 12 with fail
       go_still_tail 14,(by kernel_rfl)
       change wpList _ _ _ _ _ wr.drew
       go_upto_region 13 with fail
       change Code.wp _ _ _ _ (wr.drew.setCell ⟨gb,j,none⟩ (.bool false))
       generalize wr.drew.setCell ⟨gb,j,none⟩ (.bool false)=w4 at *
      all_goals
       clear c1 z1 m0 m1 t2
       have m0:=HM4.out.m.cell 0
       have m1:=HM4.out.m.cell 1
       have HB5:=Lib.hid (HB1.out.below HM4.out.bl HB1.out.lt)
       have t2:=HB5.out.cell 2
       simp only [zA,zB,zC] at m0 m1 t2
       by_cases hja:j<f.atoms.length
       ·obtain ⟨d,hd⟩:∃d,f.atoms[j]? = some d:=⟨_,List.getElem?_eq_getElem hja⟩
        have HD:=Lib.hid hd
        obtain ⟨A',c',ev, -, -, -,hrd⟩:=(cK HFR0.out.a HFR0.out.d).keep HM4.out.bl
        injection ev with e1 _ e2
        subst e1 e2
        obtain ⟨b1',o1,rfl,hb1',hx1,hy1,hz1⟩:=hrd.diff hd
        obtain ⟨dx,dy,dc⟩:=d
        obtain ⟨hok,c0,c2⟩:=HSM.out.2.2.2.2.1 _ (List.mem_of_getElem? hd)
        obtain ⟨k1,k2,k3,k4,k5,k6,k7⟩:=gQ.1 hok
        simp only at hx1 hy1 hz1 c0 c2
        obtain ⟨X,hX⟩:∃X:Nat,dx=X:=⟨dx.toNat,by omega⟩
        obtain ⟨Y,hY⟩:∃Y:Nat,dy=Y:=⟨dy.toNat,by omega⟩
        subst hX hY
        have X1:X<ni:=by have:=HNI.out;omega
        have Y1:Y<ni:=by have:=HNI.out;omega
        obtain ⟨p,hp⟩:∃p,xs[X]? = some p:=⟨_,List.getElem?_eq_getElem (by have:=HXL.out;omega)⟩
        obtain ⟨q,hq⟩:∃q,xs[Y]? = some q:=⟨_,List.getElem?_eq_getElem (by have:=HXL.out;omega)⟩
        obtain ⟨p1,p2⟩:=HXR.out p (List.mem_of_getElem? hp)
        obtain ⟨q1,q2⟩:=HXR.out q (List.mem_of_getElem? hq)
        have e1:=HM4.out.x.cell X
        have e2:=HM4.out.x.cell Y
        rw [iM hp] at e1
        rw [iM hq] at e2
        obtain ⟨z2,hz2⟩:∃z,b4[j]? = some z:=⟨_,List.getElem?_eq_getElem (by have:=HBL4.out;omega)⟩
        have c1:=HM4.out.b.cell j
        rw [nW hz2] at c1
        have z1:=HM4.out.b.frozen j
        have HM5:Hid (MD w0 (w4.drew.setCell ⟨gb,j,none⟩ (.bool (decide (p-q≤dc)))) nb ni gm gb gx (b4.set j (decide (p-q≤dc))) xs):=Lib.hid ((HM4.out.drewN 1).setB j (decide (p-q≤dc)))
        have HPF2:Hid (PF f.atoms xs (b4.set j (decide (p-q≤dc))) (j+1)):=Lib.hid (by
         obtain ⟨u,hu⟩:=HB4.out
         have h:=HPF.out.two (by have:=HBL.out;have:=HJ.out;omega) HD.out u
         have g1:gi xs (X:Int)=p:=by unfold gi;rw [List.getD_eq_getElem?_getD,Int.toNat_natCast,hp];rfl
         have g2:gi xs (Y:Int)=q:=by unfold gi;rw [List.getD_eq_getElem?_getD,Int.toNat_natCast,hq];rfl
         simp only [g1,g2] at h
         rw [hu]
         exact h)
        clear hd hrd hp hq k5 k6 k7 hok hz2
        have sc:=qN (p-q) (by omega)
        go_upto_region 14 with fail
        go_still_tail 32,(by kernel_rfl)
        change wpList _ _ _ _ _ w4.drew
        clear sc
        go_wp2_with fail
        have hjn:=HJ.out
        go_roundw
        case rel=>exact ⟨j+1,_,by omega,by go_num,by rw [zX];exact HBL4.out,HPF2,HM5.out⟩
        case measure=>simp [intOf];omega
       ·have HPF2:Hid (PF f.atoms xs b4 (j+1)):=Lib.hid (by obtain ⟨u,hu⟩:=HB4.out;rw [hu];exact HPF.out.one (by omega) u)
        go_wp2_with fail
        have hjn:=HJ.out
        go_roundw
        case rel=>exact ⟨j+1,b4,by omega,by go_num,HBL4.out,HPF2,HM4.out⟩
        case measure=>simp [intOf];omega
     ·have HPN:Hid (pA f.atoms bs xs):=Lib.hid (HPF.out.fits (by omega))
      clear m0 m1 t2
      have HCW:Hid (CW w wr f w2.heap.size (W.heap.size+3) W.heap.size Ac n cc nb ni gm gb gx (.slice Aa f.atoms.length ca) bs xs us0 f.clauses 0):=Lib.hid (by
       obtain ⟨_,_,_,h4,h5,h6⟩:=HSM.out
       refine ⟨HFR0.out.keep HM3.out.bl,HN.out.symm,by rw [HN.out];exact HUL.out.symm,fun j c _ hj=>absurd hj (Nat.not_lt_zero _),fun j c hc _=>(h6 c (List.mem_of_getElem? hc)).2.1,fun c hc=>⟨by have:=(h6 c hc).2.1;omega,(h6 c hc).2.2⟩,HB3.out,HM3.out.m,HM3.out.b,HM3.out.x,HB0.out.trans (HM3.out.bl.mono HB0.out.size),?_⟩
       have h1:=HSZ.out
       have h2:=HB3.out.lt
       omega)
      have HGG:Hid (w2.heap.size<gm∧w2.heap.size<gb∧w2.heap.size<gx):=Lib.hid ⟨by have:=HM3.out.l1;omega,by have:=HM3.out.l2;omega,by have:=HM3.out.l3;omega⟩
      have t3:=HB3.out.cell 3
      simp only [zA,zB,zC] at t3
      obtain ⟨wo,hwo⟩:∃wo:World,wo=wr:=⟨_,rfl⟩
      rw [←hwo] at HCW t3 ⊢
      clear hwo HM3 HB3 HPF
      go_wp2_with fail
      clear t3
      go_loopw [108] (fun iv wq=>∃(i:Nat) (us:List Value) (xss:List (List Int)),i≤n∧iv = .int .i64 (i:Int)∧Hid (CW w wq f w2.heap.size (W.heap.size+3) W.heap.size Ac n cc nb ni gm gb gx (.slice Aa f.atoms.length ca) bs xs us xss i)) (fun iv _=>n-(intOf iv).toNat)
      case atStart=>exact ⟨0,us0,f.clauses,zQ _,rfl,HCW⟩
      case round =>
       obtain ⟨i,us,xss,hin,rfl,HR⟩:=hrel
       clear HCW
       by_cases hlt:i<n
       ·have HLT:=Lib.hid hlt
        obtain ⟨g,rfl⟩:∃g,Ac=some ⟨g,0,none⟩:=by
         rcases bG HR.out.r.m.1 with ⟨-,h, -⟩|⟨g,cap,h⟩
         ·have:=HR.out.un;omega
         ·injection h with h1;exact ⟨g,h1⟩
        have HG:Hid (W.heap.size+4≤g∧g<w2.heap.size):=Lib.hid ⟨(HFR.out.m.1.lt g rfl).1,(HFR.out.m.1.lt g rfl).2⟩
        obtain ⟨u,hu⟩:∃u,us[i]? = some u:=⟨_,List.getElem?_eq_getElem (by have:=HR.out.un;omega)⟩
        obtain ⟨zc,hz⟩:∃zc,xss[i]? = some zc:=⟨_,List.getElem?_eq_getElem (by have:=HR.out.xn;omega)⟩
        have HZ:=Lib.hid hz
        have HZL:Hid (zc.length≤4∧∀x∈zc,dF f.bools x=true):=Lib.hid ⟨HR.out.len i zc hz (Nat.le_refl _),(HR.out.ok zc (List.mem_of_getElem? hz)).2⟩
        have HUI:=Lib.hid ((HR.out.r.m.2.2 i u zc hu hz).ints)
        have HOM:Hid (wr.ownsRow (W.heap.size+4) 33 1 (.slice (some ⟨g,0,none⟩) n cc) n us):=Lib.hid (by have h:=HR.out.r.m.1;rw [HR.out.un] at h;exact h)
        have c1:=(HOM.out.cellAt i (by omega)).trans hu
        have HBV:Hid (Bools wr (.slice (some ⟨gb,0,none⟩) nb nb) bs):=Lib.hid (by have h:=HR.out.bb.bools (by have:=HBL.out;unfold maxLen;omega);rwa [HBL.out] at h)
        have m0:=HR.out.md.cell 0
        have m1:=HR.out.md.cell 1
        simp only [zA,zB,zC] at m0 m1
        obtain ⟨Az,cz,hAz,hcz1,hcz2, -, -⟩:=HUI.out
        subst hAz
        have hgl:g<wr.heap.size:=(HOM.out.lt g rfl).2
        clear hu hz
        go_wp2_with fail
        refine (rK _ _ bs _ zc _ HUI.out HBV.out).mono ?_
        rintro e w6 ⟨rfl,hb6⟩
        have HR6:=Lib.hid (HR.out.keep hb6)
        have HUI6:=Lib.hid (HUI.out.keep hb6)
        cases hany:zc.any (holds bs) with
        | true =>
         have HR7:=Lib.hid (HR6.out.skip HZ.out hany)
         clear hb6 c1 m0 m1 HR6 hany
         go_wp2_with fail
         have hlt:=HLT.out
         go_roundw
         case rel=>exact ⟨i+1,us,xss,by omega,by go_num,HR7⟩
         case measure=>simp [intOf];omega
        | false =>
         obtain ⟨kk,hkk⟩:∃kk:Nat,(7 * i+3) % nb=kk:=⟨_,rfl⟩
         have kt:(7 * (i:Int)+3).tmod (nb:Int)=(kk:Int):=by rw [qK (by omega),←hkk];norm_cast
         have k4:kk<nb:=by rw [←hkk];exact Nat.mod_lt _ hnb0
         obtain ⟨zb,hzb⟩:∃z,bs[kk]? = some z:=⟨_,List.getElem?_eq_getElem (by have:=HBL.out;omega)⟩
         have HL:Hid (holds bs (if zb=true then (kk:Int)+1 else -((kk:Int)+1))=true∧dF f.bools (if zb=true then (kk:Int)+1 else -((kk:Int)+1))=true∧I64 (if zb=true then (kk:Int)+1 else -((kk:Int)+1))):=Lib.hid ⟨sgn_hold2 hzb,by rw [HNB.out];split<;>exact dH.2 ⟨by omega,by omega,by omega⟩,by split<;>(constructor<;>omega)⟩
         have c2:=HR6.out.bb.cell kk
         rw [nW hzb] at c2
         have m0:=HR6.out.md.cell 0
         have m1:=HR6.out.md.cell 1
         have t1:=HR6.out.fk.cell 1
         have t3:=HR6.out.fk.cell 3
         simp only [zA,zB,zC] at m0 m1 t1 t3
         have yk:¬((nb:Int)=0):=by omega
         have yk2:¬(nb=0):=by omega
         have hbk:w2.heap.size<w6.heap.size:=HR6.out.fk.lt
         clear hb6 c1 hkk hzb HR hany HUI HBV HOM
         have y7:IntKind.i64.wrap (7 * (i:Int))=7 * (i:Int):=qN _ (by omega)
         have y8:IntKind.i64.wrap (7 * (i:Int)+3)=7 * (i:Int)+3:=qN _ (by omega)
         have y9:IntKind.i64.wrap ((kk:Int)+1)=(kk:Int)+1:=qN _ (by omega)
         have y10:IntKind.i64.wrap (-((kk:Int)+1)) = -((kk:Int)+1):=qN _ (by omega)
         cases zb
         focus
          simp only [xO,jR] at HL
          go_upto_region 24 with fail
          generalize -((kk:Int)+1)=lt at *
         rotate_left
         focus
          simp only [uR] at HL
          go_upto_region 24 with fail
          generalize (kk:Int)+1=lt at *
         all_goals
          clear c2 m0 m1 t1 y7 y8 y9 y10 kt yk yk2
          obtain ⟨Az',cz',eAz, -, -,hzi,hzr⟩:=HUI6.out
          injection eAz with e1 e9 e2
          subst e1 e2
          clear e9
          have HZI:=Lib.hid hzi
          have HRD:Hid (∀w',Below w6.heap.size w6 w'→Rd w' Az (zc.map (Value.int .i64))):=Lib.hid fun w' hb=>Rd.keep hzr hb
          have HOM6:Hid (w6.ownsRow (W.heap.size+4) 33 1 (.slice (some ⟨g,0,none⟩) n cc) n us):=Lib.hid (by have h:=HR6.out.r.m.1;rw [HR6.out.un] at h;exact h)
          obtain ⟨u6,hu6⟩:∃u6,us[i]? = some u6:=⟨_,List.getElem?_eq_getElem (by have:=HR6.out.un;omega)⟩
          have t3a:=(HR6.out.fk.alloc (.cells #[.int .i64 lt] 3)).cell 3
          simp only [zA,zB,zC] at t3a
          have HBD:Hid (Below w6.heap.size w6 w6.drew):=Lib.hid (zR _ _).drew
          have HBE:Hid (Below w6.heap.size w6 (w6.alloc (.cells #[.int .i64 lt] 3)).drew):=Lib.hid ((zR _ _).alloc (Nat.le_refl _) _).drew
          have hz4:zc.length≤4:=HZL.out.1
          have HL1:Hid ((zc.map (Value.int .i64)).length=zc.length * 1):=Lib.hid (by simp)
          have HO1:Hid (∀u∈zc.map (Value.int .i64),u.oneCell'=true):=Lib.hid (by intro u hu;obtain ⟨x, -,rfl⟩:=List.mem_map.1 hu;rfl)
          have HO2:Hid (∀u∈([.int .i64 lt]:List Value),u.oneCell'=true):=Lib.hid (by intro u hu;rw [zH.1 hu];rfl)
          have HM1:Hid (0+zc.length≤maxLen):=by refine Lib.hid ?_;unfold maxLen;omega
          have HM2:Hid ((0+zc.length) * 8≤140737488355328):=by refine Lib.hid ?_;omega
          have HM3:Hid (zc.length+1≤maxLen):=by refine Lib.hid ?_;unfold maxLen;omega
          have HM4:Hid ((zc.length+1) * 8≤140737488355328):=by refine Lib.hid ?_;omega
          clear hzi hzr
          go_region_held_law (fun w'=>w'.cell? ⟨w2.heap.size,3,none⟩=some (.slice (some ⟨g,0,none⟩) n cc)) (first|exact t3|exact t3a|exact s7|exact s7a|exact s9|exact s10) (first
           | (refine iE rfl (.const (.slice none 0 0)) (.tmp 136) 33 rfl w6.heap.size 3 iI (.int .i64 0) 1 8 Try.underlying33 hiI hzI0 hzI1 hzI2 rfl (by decide) (.slice none 0 0) 0 [] (by first|rfl|simp [Act.eval]) (qE _ _ _ _) Az zc.length cz (zc.map (Value.int .i64)) (by first|rfl|simp [Act.eval]) HL1.out (HRD.out _ (by first|exact HBD.out|exact HBE.out)) HO1.out HM1.out HM2.out (by first|exact Nat.le_refl _|exact HBE.out.size|simp) ?_;intro v7 w7 hown hg hat;simp only [qZ,xL] at hown;have HO7:=Lib.hid hown;have HB7:Hid (Below w6.heap.size w6 w7):=(by first|exact Lib.hid (HBD.out.grown hg HBD.out.size (fun k e=>(by cases e)))|exact Lib.hid (HBE.out.grown hg HBE.out.size (fun k e=>(by cases e))));(first|(have HLB:Hid (Blk w7 w6.heap.size 3 #[.int .i64 lt]):=Lib.hid ((Blk.new w6 3 #[.int .i64 lt]).drew.grown hg (fun e=>(by cases e))))|skip);obtain ⟨A7,c7,hv7, -, -, -⟩:=wB hown;subst hv7;have s7:w7.cell? ⟨w2.heap.size,3,none⟩=some (.slice (some ⟨g,0,none⟩) n cc):=(HR6.out.keep HB7.out).fk.cell 3;have s7a:(w7.alloc (.cells #[.int .i64 lt] 3)).cell? ⟨w2.heap.size,3,none⟩=some (.slice (some ⟨g,0,none⟩) n cc):=((HR6.out.keep HB7.out).fk.alloc (.cells #[.int .i64 lt] 3)).cell 3;clear hown hg hat)
           | (refine jZ rfl (.tmp 137) (.tmp 139) 33 rfl w6.heap.size 3 iI (.int .i64 0) 1 8 Try.underlying33 hiI hzI0 hzI1 hzI2 rfl (by decide) (.slice A7 zc.length c7) zc.length (zc.map (Value.int .i64)) (by first|rfl|simp [Act.eval]) (HO7.out.alloc _) ⟨w7.heap.size,0,none⟩ 1 1 [.int .i64 lt] (by first|rfl|simp [Act.eval]) rfl (wR w7 _ _) HO2.out HM3.out HM4.out (by have:=HB7.out.size;(first|omega|(simp;omega))) ?_;intro v9 w9 hown hg hat;have HB9:Hid (Below w6.heap.size w6 w9):=Lib.hid ((HB7.out.alloc HB7.out.size _).grown hg (by have:=HB7.out.size;(first|omega|(simp;omega))) (fun b e=>(HO7.out.lt b e).1));have HO9:Hid (Own w9 w6.heap.size v9 (zc++[lt])):=Lib.hid ⟨(by simpa using hown),(fun x hx=>(by rcases zK.1 hx with h|h;exact HZI.out x h;rw [zH.1 h];exact HL.out.2.2))⟩;obtain ⟨A9,c9,hv9, -, -, -⟩:=wB hown;subst hv9;have s9:w9.cell? ⟨w2.heap.size,3,none⟩=some (.slice (some ⟨g,0,none⟩) n cc):=(HR6.out.keep HB9.out).fk.cell 3;have s10:(w9.setCell ⟨g,i,none⟩ (.slice A9 (zc.length+1) c9)).cell? ⟨w2.heap.size,3,none⟩=some (.slice (some ⟨g,0,none⟩) n cc):=((HR6.out.keep HB9.out).fk.grown (jY w9 g i (.slice A9 (zc.length+1) c9)) (fun e=>(by have:=HG.out.2;injection e;omega))).cell 3;have c9':=((gS HOM6.out HB9.out).cellAt i (by omega)).trans hu6;have f9':=(gS HOM6.out HB9.out).frozenAt i;clear hown hg hat)
           | (refine jZ rfl (.tmp 137) (.tmp 139) 33 rfl w6.heap.size 3 iI (.int .i64 0) 1 8 Try.underlying33 hiI hzI0 hzI1 hzI2 rfl (by decide) (.slice A7 zc.length c7) zc.length (zc.map (Value.int .i64)) (by first|rfl|simp [Act.eval]) (HO7.out) ⟨w6.heap.size,0,none⟩ 1 1 [.int .i64 lt] (by first|rfl|simp [Act.eval]) rfl (one_blk HLB.out) HO2.out HM3.out HM4.out (by have:=HB7.out.size;(first|omega|(simp;omega))) ?_;intro v9 w9 hown hg hat;have HB9:Hid (Below w6.heap.size w6 w9):=Lib.hid (HB7.out.grown hg (by have:=HB7.out.size;(first|omega|(simp;omega))) (fun b e=>(HO7.out.lt b e).1));have HO9:Hid (Own w9 w6.heap.size v9 (zc++[lt])):=Lib.hid ⟨(by simpa using hown),(fun x hx=>(by rcases zK.1 hx with h|h;exact HZI.out x h;rw [zH.1 h];exact HL.out.2.2))⟩;obtain ⟨A9,c9,hv9, -, -, -⟩:=wB hown;subst hv9;have s9:w9.cell? ⟨w2.heap.size,3,none⟩=some (.slice (some ⟨g,0,none⟩) n cc):=(HR6.out.keep HB9.out).fk.cell 3;have s10:(w9.setCell ⟨g,i,none⟩ (.slice A9 (zc.length+1) c9)).cell? ⟨w2.heap.size,3,none⟩=some (.slice (some ⟨g,0,none⟩) n cc):=((HR6.out.keep HB9.out).fk.grown (jY w9 g i (.slice A9 (zc.length+1) c9)) (fun e=>(by have:=HG.out.2;injection e;omega))).cell 3;have c9':=((gS HOM6.out HB9.out).cellAt i (by omega)).trans hu6;have f9':=(gS HOM6.out HB9.out).frozenAt i;clear hown hg hat))
          all_goals
           have HR9:Hid (CW w (w9.setCell ⟨g,i,none⟩ (.slice A9 (zc.length+1) c9)) f w2.heap.size (W.heap.size+3) W.heap.size (some ⟨g,0,none⟩) n cc nb ni gm gb gx (.slice Aa f.atoms.length ca) bs xs (us.set i (.slice A9 (zc.length+1) c9)) (xss.set i (zc++[lt])) (i+1)):=Lib.hid (HR6.out.set HLT.out HB9.out (HO9.out.intsO fun b hb _ _=>hb) (by rw [List.any_append];simp [HL.out.1]) (by simp;omega) (fun x hx=>by
             rcases zK.1 hx with h|h
             ·exact HZL.out.2 x h
             ·rw [zH.1 h];exact HL.out.2.1) (by have:=HG.out.2;omega) (by have:=HG.out.2;have:=HGG.out;omega) (by have:=HG.out.2;have:=HGG.out;omega) (by have:=HG.out.2;have:=HGG.out;omega) (by have:=HG.out.1;have:=HWS.out;omega))
           clear t3 t3a s7 s7a s9 s10 c9' f9' HR6 HOM6 HRD
           go_wp2_with fail
           have hlt:=HLT.out
           go_roundw
           case rel=>exact ⟨i+1,_,_,by omega,by go_num,HR9⟩
           case measure=>simp [intOf];omega
       ·obtain rfl:i=n:=by omega
        have yi:¬(i<i):=by omega
        have HSC:Hid (∀c∈xss,c.any (holds bs)=true):=Lib.hid fun c hc=>by
         obtain ⟨j,hj,rfl⟩:=qL hc
         exact HR.out.hold j _ (List.getElem?_eq_getElem hj) (by have:=HR.out.xn;omega)
        have HVG:Hid (validF (f.withC xss)=0):=Lib.hid (pP HSM.out.valid (by have:=HR.out.xn;omega) fun c hc=>(HR.out.ok c hc).2)
        have HCG:Hid (∀c∈(f.withC xss).clauses,c.length≤200000):=Lib.hid fun c hc=>by have:=(HR.out.ok c hc).1;omega
        have HFG:Hid (IsForm wr (.agg #[.int .i64 (ni:Int), .int .i64 (nb:Int), .slice Aa f.atoms.length ca, .slice Ac i cc]) (f.withC xss)):=Lib.hid (by
         show IsForm wr _ ⟨f.ints,f.bools,f.atoms,xss⟩
         rw [HNI.out,HNB.out]
         exact HR.out.r.form (by constructor<;>omega) (by constructor<;>omega))
        have HBW:=Lib.hid HR.out.bl
        have HFK:=Lib.hid HR.out.fk
        obtain ⟨o,hgo,hc⟩:=rB HVG.out (show (f.withC xss).bools=(nb:Int) from HNB.out) (by omega) HCG.out wr _ HFG.out
        obtain ⟨val,hval, -⟩:=hgo.sat HPN.out HSC.out
        subst hval
        have HC:=Lib.hid hc
        clear hc hgo HR hlt
        have q0:=HFK.out.cell 0
        have q1:=HFK.out.cell 1
        have q2:=HFK.out.cell 2
        have q3:=HFK.out.cell 3
        simp only [zA,zB,zC] at q0 q1 q2 q3
        go_wp2_with fail
        refine HC.out.mono ?_
        rintro e w4 ⟨m0,m1,lv,rfl,hv4,hb4⟩
        obtain ⟨Am,nm,cm,Ay,ny,cy,rfl,rfl⟩:=hv4.shape
        have hb5:Below w4.heap.size w4 (w4.alloc (.cells #[.slice Am nm cm, .slice Ay ny cy] 35)):=(zR _ _).alloc (Nat.le_refl _) _
        have HMK:=Lib.hid (Blk.new w4 35 #[.slice Am nm cm, .slice Ay ny cy])
        have HV5:=Lib.hid (hv4.keep hb5)
        have hb45:=hb4.trans (hb5.mono hb4.size)
        have HF5:=Lib.hid (HFG.out.keep hb45)
        have HFK5:=Lib.hid (HFK.out.keep hb45)
        have HB5:=Lib.hid (HBW.out.trans (hb45.mono HBW.out.size))
        have e0:(Sum.inl val:List Int ⊕ List Stp).isLeft=true:=rfl
        rw [e0]
        clear hv4 hb4 hb5 hb45 HC q0 q1 q2 q3 e0
        go_upto_region 27 with fail
        generalize w4.alloc (.cells #[.slice Am nm cm, .slice Ay ny cy] 35)=w5 at *
        generalize w4.heap.size=mk at *
        have q0:=HFK5.out.cell 0
        have q1:=HFK5.out.cell 1
        have q2:=HFK5.out.cell 2
        have q3:=HFK5.out.cell 3
        have p0:=HMK.out.cell 0
        have p1:=HMK.out.cell 1
        simp only [zA,zB,zC] at q0 q1 q2 q3 p0 p1
        go_wp2_with fail
        refine (right_any HF5.out HVG.out HV5.out).mono ?_
        rintro e w6 ⟨rfl,hb6⟩
        have HB6:=Lib.hid (HB5.out.trans (hb6.mono HB5.out.size))
        clear hb6 q0 q1 q2 q3 p0 p1
        go_wp2_with fail
        refine (awake34 _).mono ?_
        rintro e w8 ⟨rfl,hb8⟩
        have HB8:=Lib.hid (HB6.out.trans (hb8.mono HB6.out.size))
        clear hb8
        go_wp2_with fail
        go_ret
        exact ⟨rfl,HB8.out⟩
end Go.Proofs.Yticieifacalocaa
