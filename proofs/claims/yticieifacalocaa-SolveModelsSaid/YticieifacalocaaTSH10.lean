/- RchkL SatR Bell -/
import Derived.Test.YticieifacalocaaTSH9
namespace Go.Proofs.Yticieifacalocaa
open Go.RowKit
set_option maxRecDepth 100000 in
set_option maxHeartbeats 1000000 in
theorem oP (fv lv:Value) (f:Form) (l:List Stp) (w:World) (hf:IsForm w fv f) (hl:Stps w lv l) (hq:oF f l) :
  Calls Try.prog 43 #[fv,lv] w (ChkRet w (chk (wX f [] l) l.length)):=by
 have HF:=Lib.hid hf
 have HQ:=Lib.hid hq
 have HL:=Lib.hid hl
 obtain ⟨av,cv,rfl, -, -,hf3,hf4⟩:=hf
 obtain ⟨Aa,ca,rfl, -, -, -, -⟩:=hf3
 obtain ⟨Ac,cc,vs,rfl, -, -, -, -, -⟩:=hf4
 obtain ⟨A,c,ps,hps,rfl,l1,l2, -, -⟩:=hl
 have hpl:ps.length=l.length:=by rw [hps];simp
 have HPL:=Lib.hid hpl
 unfold maxLen at l2
 have hpn:ps.length≤1099511627776:=by have:=hq.2.2.1;omega
 clear hq hps hpl
 have HB:Hid (Below w.heap.size w (w.alloc (.cells #[.int .i64 f.ints, .int .i64 f.bools, .slice Aa f.atoms.length ca, .slice Ac f.clauses.length cc] 29))):=(zR _ _).alloc (Nat.le_refl _) _
 go_enter Try.func43,Try.ntmps43
 go_wp2_with fail
 refine (mC _ _ f l _ (HF.out.keep HB.out) (HL.out.keep HB.out) HQ.out).mono ?_
 rintro e w2 hret
 cases hr:wX f [] l with
 | mk cs ok =>
  have HR:=Lib.hid hr
  rw [hr] at hret
  rcases hret with ⟨h1,v,rfl,us,hom,hb⟩|⟨h1,rfl,hb⟩
  ·simp only at h1
   subst h1
   have hcl:cs.length=ps.length:=by have:=runS_len (f:=f) l [] (by rw [hr]);rw [hr] at this;simpa [HPL.out] using this
   have hul:us.length=ps.length:=by rw [hom.2.1];exact hcl
   have HB2:=Lib.hid (HB.out.trans (hb.mono HB.out.size))
   have HM:=Lib.hid hom.mat
   obtain ⟨Ax,cx,hx, -, -,hrd⟩:=wB hom.1
   subst hx
   have HOM:=Lib.hid hom
   have HRD:=Lib.hid hrd
   have HCL:=Lib.hid hcl
   have HUL:=Lib.hid hul
   clear hr hb hom hrd hcl hul
   by_cases h0:ps.length=0
   ·have d0:((ps.length:Int) == 0)=true:=by simp;exact qU h0
    have HC:Hid (chk (wX f [] l) l.length=((ps.length:Int),15)):=by refine Lib.hid ?_;rw [HR.out,←HPL.out];unfold chk;rw [if_pos rfl,if_pos (.inl h0)]
    clear h0
    go_wp2_with fail
    go_ret2
    exact ⟨by rw [HC.out];rfl,HB2.out⟩
   ·have d0:((ps.length:Int) == 0)=false:=by simp;intro h;exact h0 (by rw [h];rfl)
    obtain ⟨c,hc⟩:∃c,cs[ps.length-1]? = some c:=⟨_,List.getElem?_eq_getElem (by have:=HCL.out;omega)⟩
    obtain ⟨A',c',vs',hv',m1,m2,m3,m4,m5⟩:=HM.out
    injection hv' with e1 e2 e3
    subst e1 e3
    obtain ⟨b,off,A1,c1,rfl,hb,hcell,hI⟩:=Mat.at_ m4 m3 m5 hc
    have HD:Hid (cs.getD (ps.length-1) []=c):=by refine Lib.hid ?_;simp [List.getD,hc]
    have hps0:1≤ps.length:=by omega
    have huI:Hid (us.length=ps.length):=HUL.out
    have hidx:((ps.length:Int)-1).toNat=ps.length-1:=by omega
    have hlt:(ps.length:Int)-1<(us.length:Int):=by have:=HUL.out;omega
    clear m1 m2 m3 m4 m5 hc hI e2
    by_cases hc0:c=[]
    ·subst hc0
     have HC:Hid (chk (wX f [] l) l.length=(0,0)):=by refine Lib.hid ?_;rw [HR.out,←HPL.out];unfold chk;rw [if_pos rfl,if_neg (by rw [HD.out];exact fun h=>h.elim h0 fun h=>h rfl)]
     simp only [xA] at hcell
     clear h0
     go_wp2_with fail
     go_ret2
     exact ⟨by rw [HC.out];rfl,HB2.out⟩
    ·have HC:Hid (chk (wX f [] l) l.length=((ps.length:Int),15)):=by refine Lib.hid ?_;rw [HR.out,←HPL.out];unfold chk;rw [if_pos rfl,if_pos (.inr (by rw [HD.out];exact hc0))]
     have hcl:0<c.length:=jJ.2 hc0
     have dc:decide ((0:Int)<(c.length:Int))=true:=by simp;omega
     have dc':decide (0<c.length)=true:=by simp;omega
     clear h0 hc0
     go_wp2_with fail
     go_ret2
     exact ⟨by rw [HC.out];rfl,HB2.out⟩
  ·simp only at h1
   subst h1
   have HB2:=Lib.hid (HB.out.trans (hb.mono HB.out.size))
   have HC:Hid (chk (wX f [] l) l.length=((cs.length:Int),15)):=by refine Lib.hid ?_;rw [HR.out];rfl
   have dn:decide ((0:Int)≤(cs.length:Int))=true:=by simp
   clear hr hb
   go_wp2_with fail
   go_ret2
   exact ⟨by rw [HC.out];rfl,HB2.out⟩
section
variable (av cv bv iv:Value) (xs:List Int) (bs:List Bool) (w:World)
set_option maxRecDepth 100000 in
theorem rX (f:Form) (hA:Diffs w av f.atoms) (hM:Mat w cv f.clauses) (hB:Bools w bv bs) (hX:Ints w iv xs) (g1:(bs.length:Int)≠f.bools) :
  Calls Try.prog 42 #[.agg #[.int .i64 f.ints, .int .i64 f.bools,av,cv], .agg #[bv,iv]] w fun e w'=>e = .returned (.bool false)∧Below w.heap.size w w':=by
 obtain ⟨A,c,rfl, -, -, -, -⟩:=hA
 obtain ⟨A',c',vs,rfl, -, -, -, -, -⟩:=hM
 obtain ⟨A2,c2,rfl, -, -, -⟩:=hB
 obtain ⟨A3,c3,rfl, -, -, -, -⟩:=hX
 obtain ⟨ints,bools,atoms,clauses⟩:=f
 simp only at *
 have d1:((bs.length:Int) != bools)=true:=by simp [g1]
 clear g1
 go_enter Try.func42,Try.ntmps42
 go_wp2_with fail
 go_ret
 exact ⟨rfl,by go_grown⟩
set_option maxRecDepth 100000 in
theorem sH (f:Form) (hA:Diffs w av f.atoms) (hM:Mat w cv f.clauses) (hB:Bools w bv bs) (hX:Ints w iv xs) (g1:(bs.length:Int)=f.bools) (g2:(xs.length:Int)≠f.ints) :
  Calls Try.prog 42 #[.agg #[.int .i64 f.ints, .int .i64 f.bools,av,cv], .agg #[bv,iv]] w fun e w'=>e = .returned (.bool false)∧Below w.heap.size w w':=by
 obtain ⟨A,c,rfl, -, -, -, -⟩:=hA
 obtain ⟨A',c',vs,rfl, -, -, -, -, -⟩:=hM
 obtain ⟨A2,c2,rfl, -, -, -⟩:=hB
 obtain ⟨A3,c3,rfl, -, -, -, -⟩:=hX
 obtain ⟨ints,bools,atoms,clauses⟩:=f
 simp only at *
 subst g1
 have d2:((xs.length:Int) != ints)=true:=by simp [g2]
 clear g2
 go_enter Try.func42,Try.ntmps42
 go_wp2_with fail
 go_ret
 exact ⟨rfl,by go_grown⟩
set_option maxRecDepth 100000 in
set_option maxHeartbeats 4000000 in
theorem rsat_body (atoms:List Diff) (clauses:List (List Int)) (hA:Diffs w av atoms) (hM:Mat w cv clauses) (hB:Bools w bv bs) (hX:Ints w iv xs)
  (g1:atoms.length≤bs.length) (hat:∀d∈atoms,dV xs.length d=true) (h40:∀x∈xs,Forty x) (g2:bs.length≤1024) (g4:clauses.length≤32768) :
  Calls Try.prog 42 #[.agg #[.int .i64 xs.length, .int .i64 bs.length,av,cv], .agg #[bv,iv]] w (SatRet w (SatB atoms clauses xs bs)):=by
 have HBO:=Lib.hid hB
 have HIX:=Lib.hid hX
 have HAT:=Lib.hid hat
 have H40:=Lib.hid h40
 obtain ⟨A,c,rfl, -, -, -,har⟩:=hA
 obtain ⟨A',c',vs,rfl, -, -,hc3,hcr,hci⟩:=hM
 obtain ⟨A2,c2,rfl, -, -,hbr⟩:=hB
 obtain ⟨A3,c3,rfl, -, -, -,hxr⟩:=hX
 have HCR:=Lib.hid hcr
 have HCI:=Lib.hid hci
 have HC3:=Lib.hid hc3
 have HAR:=Lib.hid har
 have HBR:=Lib.hid hbr
 have HXR:=Lib.hid hxr
 clear har hcr hci hc3 hbr hxr hat h40
 have d6:decide (bs.length<atoms.length)=false:=by simp;omega
 go_enter Try.func42,Try.ntmps42
 go_wp2_with fail
 have B0:=(Blk.new w 29 #[.int .i64 xs.length, .int .i64 bs.length, .slice A atoms.length c, .slice A' clauses.length c']).alloc (.cells #[.slice A2 bs.length c2, .slice A3 xs.length c3] 35)
 have B1:=Blk.new (w.alloc (.cells #[.int .i64 xs.length, .int .i64 bs.length, .slice A atoms.length c, .slice A' clauses.length c'] 29)) 35 #[.slice A2 bs.length c2, .slice A3 xs.length c3]
 simp only [xN] at B1
 generalize hW:(w.alloc (.cells #[.int .i64 xs.length, .int .i64 bs.length, .slice A atoms.length c, .slice A' clauses.length c'] 29)).alloc (.cells #[.slice A2 bs.length c2, .slice A3 xs.length c3] 35)=W at B0 B1 ⊢
 have hbW:Below w.heap.size w W:=by rw [←hW];go_grown
 have hszW:W.heap.size=w.heap.size+2:=by rw [←hW];simp
 have HBW:=Lib.hid hbW
 have HSW:=Lib.hid hszW
 have HB0:=Lib.hid B0
 have HB1:=Lib.hid B1
 clear hW B0 B1 hbW hszW
 go_loopw [26] (fun i wr=>∃k:Nat,k≤atoms.length∧i = .int .i64 k∧(∀(j:Nat) (d:Diff),j<k→atoms[j]? = some d→atomOk xs bs j d=true)∧Below W.heap.size W wr) (fun i _=>atoms.length-(intOf i).toNat)
 case atStart=>exact ⟨0,by omega,rfl,fun j d hj=>absurd hj (by omega),zR _ _⟩
 case round =>
  obtain ⟨k,hk,rfl,hall,hbw⟩:=hrel
  have HALL:=Lib.hid hall
  have HBQ:=Lib.hid hbw
  have HBB:Hid (Below w.heap.size w wr):=HBW.out.trans (hbw.mono HBW.out.size)
  have HK0:=Lib.hid (HB0.out.keep hbw)
  have HK1:=Lib.hid (HB1.out.keep hbw)
  have q0:=HK0.out.cell 0
  have q1:=HK0.out.cell 1
  have q2:=HK0.out.cell 2
  have q3:=HK0.out.cell 3
  have r0:=HK1.out.cell 0
  have r1:=HK1.out.cell 1
  simp only [zA,zB,zC] at q0 q1 q2 q3 r0 r1
  have hz:w.heap.size+1<wr.heap.size:=by have:=hbw.size;have:=HSW.out;omega
  have hz0:w.heap.size<wr.heap.size:=by omega
  have hz2:W.heap.size≤wr.heap.size:=hbw.size
  clear hall hbw
  by_cases hlt:k<atoms.length
  ·obtain ⟨d,hd⟩:∃d,atoms[k]? = some d:=⟨_,List.getElem?_eq_getElem hlt⟩
   have hok:=HAT.out d (List.mem_of_getElem? hd)
   obtain ⟨b1,o1,rfl,hb1,hc1,hc2,hc3⟩:=(HAR.out.keep HBB.out).diff hd
   obtain ⟨x,y,z⟩:=d
   have HD:=Lib.hid hd
   clear hd
   simp only at hc1 hc2 hc3
   obtain ⟨k1,k2,k3,k4,k5,k6,k7⟩:=gQ.1 hok
   clear hok k5
   obtain ⟨m,rfl⟩:∃m:Nat,x=m:=⟨x.toNat,by omega⟩
   obtain ⟨n,rfl⟩:∃n:Nat,y=n:=⟨y.toNat,by omega⟩
   obtain ⟨a,ha⟩:∃a,xs[m]? = some a:=⟨_,List.getElem?_eq_getElem (by omega)⟩
   obtain ⟨b,hb⟩:∃b,xs[n]? = some b:=⟨_,List.getElem?_eq_getElem (by omega)⟩
   obtain ⟨t,ht⟩:∃t,bs[k]? = some t:=⟨_,List.getElem?_eq_getElem (by omega)⟩
   obtain ⟨b2,o2,rfl,hb2,hca⟩:=(HXR.out.keep HBB.out).int ha
   obtain ⟨b3,o3,hb3e,hb3,hcb⟩:=(HXR.out.keep HBB.out).int hb
   injection hb3e with hb3e
   injection hb3e with e1 e2 _
   subst e1 e2
   obtain ⟨b4,o4,rfl,hb4,hct⟩:=(HBR.out.keep HBB.out).bool ht
   obtain ⟨ha1,ha2⟩:=H40.out a (List.mem_of_getElem? ha)
   obtain ⟨hb1',hb2'⟩:=H40.out b (List.mem_of_getElem? hb)
   have HOK:Hid (atomOk xs bs k ⟨m,n,z⟩=(t == decide (a-b≤z))):=by
    show atomOk xs bs k ⟨m,n,z⟩=(t == decide (a-b≤z))
    simp only [atomOk,Int.toNat_natCast,nL ha,nL hb,nL ht]
   clear ha hb ht
   have y1:IntKind.i64.wrap (a-b)=a-b:=qN _ (by omega)
   have y2:((m:Int)).toNat=m:=by omega
   have y3:((n:Int)).toNat=n:=by omega
   generalize hdz:decide (a-b≤z)=dz at HOK
   go_wp2_with fail
   have BD:=Blk.new wr 50 #[.int .i64 m, .int .i64 n, .int .i64 z]
   generalize hW2:wr.alloc (.cells #[.int .i64 m, .int .i64 n, .int .i64 z] 50)=W2 at BD ⊢
   have hbW2:Below wr.heap.size wr W2:=by rw [←hW2];go_grown
   have p0:=BD.cell 0
   have p1:=BD.cell 1
   have p2:=BD.cell 2
   simp only [zA,zB,zC] at p0 p1 p2
   have r0:=(hbW2.cell (p:=⟨w.heap.size+1,0,none⟩) hz).trans r0
   have r1:=(hbW2.cell (p:=⟨w.heap.size+1,1,none⟩) hz).trans r1
   have hca:=(hbW2.cell (p:=⟨b2,o2+m,none⟩) hb2).trans hca
   have hcb:=(hbW2.cell (p:=⟨b2,o2+n,none⟩) hb3).trans hcb
   have hct:=(hbW2.cell (p:=⟨b4,o4+k,none⟩) hb4).trans hct
   have HBW2:=Lib.hid hbW2
   clear hW2 hbW2 BD
   cases t<;>cases dz
   ·go_quiet (fail)
    go_wp2_with fail
    have HNX:Hid (∀(j:Nat) (d:Diff),j<k+1→atoms[j]? = some d→atomOk xs bs j d=true):=by
     intro j d hj hjd
     by_cases e:j=k
     ·subst e
      rw [HD.out] at hjd
      injection hjd with hjd
      subst hjd
      rw [HOK.out]
      rfl
     ·exact HALL.out j d (by omega) hjd
    go_roundw
    case rel=>exact ⟨k+1,by omega,by go_num,HNX.out,aW (HBQ.out.trans (HBW2.out.mono HBQ.out.size)) _⟩
    case measure=>simp [intOf];omega
   ·go_quiet (fail)
    go_wp2_with fail
    go_ret
    refine ⟨⟨_,rfl,?_⟩,aW (HBB.out.trans (HBW2.out.mono HBB.out.size)) _⟩
    refine ⟨fun h=>Bool.noConfusion h,fun h => ?_⟩
    have h1:=h.1 k _ HD.out
    rw [HOK.out] at h1
    cases h1
   ·go_quiet (fail)
    go_wp2_with fail
    go_ret
    refine ⟨⟨_,rfl,?_⟩,aW (HBB.out.trans (HBW2.out.mono HBB.out.size)) _⟩
    refine ⟨fun h=>Bool.noConfusion h,fun h => ?_⟩
    have h1:=h.1 k _ HD.out
    rw [HOK.out] at h1
    cases h1
   ·go_quiet (fail)
    go_wp2_with fail
    have HNX:Hid (∀(j:Nat) (d:Diff),j<k+1→atoms[j]? = some d→atomOk xs bs j d=true):=by
     intro j d hj hjd
     by_cases e:j=k
     ·subst e
      rw [HD.out] at hjd
      injection hjd with hjd
      subst hjd
      rw [HOK.out]
      rfl
     ·exact HALL.out j d (by omega) hjd
    go_roundw
    case rel=>exact ⟨k+1,by omega,by go_num,HNX.out,aW (HBQ.out.trans (HBW2.out.mono HBQ.out.size)) _⟩
    case measure=>simp [intOf];omega
  ·have HAT2:Hid (∀(j:Nat) (d:Diff),atoms[j]? = some d→atomOk xs bs j d=true):=fun j d hj=>HALL.out j d (by have:=(zG.1 hj).1;omega) hj
   obtain rfl:k=atoms.length:=by omega
   clear HALL HAR HAT HB0 HB1 hz2 hlt hk
   generalize hwv:wr=wv at *
   clear hwv
   go_wp2_with fail
   go_loopw [57] (fun i wr=>∃k:Nat,k≤clauses.length∧i = .int .i64 k∧((clauses.take k).all fun c=>c.any (holds bs))=true∧Below wv.heap.size wv wr) (fun i _=>clauses.length-(intOf i).toNat)
   case atStart=>exact ⟨0,by omega,rfl,by simp,zR _ _⟩
   case round =>
    obtain ⟨k,hk,rfl,hall,hbw⟩:=hrel
    have HALL:=Lib.hid hall
    have HBE:=Lib.hid hbw
    have HBC:Hid (Below w.heap.size w wr):=HBB.out.trans (hbw.mono HBB.out.size)
    have HM1:=Lib.hid (HK1.out.keep hbw)
    have r0:=HM1.out.cell 0
    have r1:=HM1.out.cell 1
    simp only [zA,zB,zC] at r0 r1
    clear hall hbw
    by_cases hlt:k<clauses.length
    ·obtain ⟨zs,hzs⟩:∃x,clauses[k]? = some x:=⟨_,List.getElem?_eq_getElem hlt⟩
     obtain ⟨b,off,A1,c1,rfl,hb,hcell,hint⟩:=Mat.at_ HCR.out HC3.out HCI.out hzs
     have hcell:=(HBC.out.cell (p:=⟨b,off+k,none⟩) hb).trans hcell
     have HZI:=Lib.hid (hint.keep HBC.out)
     have HZS:=Lib.hid hzs
     have hb:=zZ hb HBC.out.size
     clear hint hzs
     go_wp2_with fail
     refine (rK _ _ bs _ zs _ HZI.out (HBO.out.keep HBC.out)).mono ?_
     rintro e w2 ⟨rfl,hb2⟩
     have HB2:=Lib.hid hb2
     clear hb2
     cases hq:zs.any (holds bs) with
     | true =>
      have HQ:=Lib.hid hq
      clear hq
      simp only
      go_wp2_with fail
      refine ⟨⟨k+1,by omega,by go_num,dP HALL.out HZS.out HQ.out,HBE.out.trans (HB2.out.mono HBE.out.size)⟩,by simp [intOf];omega⟩
     | false =>
      have HQ:=Lib.hid hq
      clear hq
      simp only
      go_wp2_with fail
      go_ret
      refine ⟨⟨_,rfl,?_⟩,HBC.out.trans (HB2.out.mono HBC.out.size)⟩
      refine ⟨fun h=>Bool.noConfusion h,fun h => ?_⟩
      have h1:=h.2 zs (List.mem_of_getElem? HZS.out)
      rw [HQ.out] at h1
      cases h1
    ·have HC:Hid ((clauses.all fun c=>c.any (holds bs))=true):=eY HALL.out (by omega)
     go_wp2_with fail
     go_ret
     refine ⟨⟨_,rfl,?_⟩,HBC.out⟩
     refine ⟨fun _=>⟨HAT2.out,?_⟩,fun _=>rfl⟩
     have h1:=HC.out
     rw [qH] at h1
     exact h1
theorem rsat_any (v:Value) (f:Form) (hf:IsForm w v f) (hB:Bools w bv bs) (hX:Ints w iv xs) (hv:validF f=0) (h40:∀x∈xs,Forty x) :
  Calls Try.prog 42 #[v, .agg #[bv,iv]] w (SatRet w (Sat f xs bs)):=by
 obtain ⟨av,cv,rfl,hI,hBo,hA,hM⟩:=hf
 obtain ⟨v1,v2,v3,v4,v5,v6,v7,v8⟩:=dG hv
 by_cases g1:(bs.length:Int)=f.bools
 ·by_cases g2:(xs.length:Int)=f.ints
  ·have h:=rsat_body av cv bv iv xs bs w f.atoms f.clauses hA hM hB hX (by omega) (by rw [g2];exact v7) h40 (by omega) (by omega)
   rw [g1,g2] at h
   refine h.mono ?_
   rintro e w' ⟨⟨b,rfl,hb⟩,hbw⟩
   exact ⟨⟨b,rfl,hb.trans ⟨fun h=>⟨g1,g2,h⟩,fun h=>h.2.2⟩⟩,hbw⟩
  ·refine (sH av cv bv iv xs bs w f hA hM hB hX g1 g2).mono ?_
   rintro e w' ⟨rfl,hbw⟩
   exact ⟨⟨false,rfl,⟨fun h=>Bool.noConfusion h,fun h=>absurd h.2.1 g2⟩⟩,hbw⟩
 ·refine (rX av cv bv iv xs bs w f hA hM hB hX g1).mono ?_
  rintro e w' ⟨rfl,hbw⟩
  exact ⟨⟨false,rfl,⟨fun h=>Bool.noConfusion h,fun h=>absurd h.1 g1⟩⟩,hbw⟩
end
def gi (xs:List Int) (v:Int):Int:=xs.getD v.toNat 0
theorem dW {xs:List Int} {v u a:Int} (h0:0≤v) (h1:v<xs.length) (hu:0≤u):gi (xs.set v.toNat a) u=if u=v then a else gi xs u:=by
 unfold gi
 rw [List.getD_eq_getElem?_getD,List.getD_eq_getElem?_getD,kM]
 by_cases e:u=v
 ·subst e;rw [if_pos rfl,if_pos (by omega),if_pos rfl];rfl
 ·rw [if_neg (by omega),if_neg e]
def iJ (n:Nat) (M:Int) (l:List Diff):Prop:=∀(k:Nat) (e:Diff),l[k]? = some e→0≤e.x∧e.x<n∧0≤e.y∧e.y<n∧e.x≠e.y ∧ -M≤e.c∧e.c≤M
structure BF (n:Nat) (M:Int) (l:List Diff) (r i:Nat) (xs bs:List Int) (last:Int) (t:Int→Int) (s:Int→Nat) (N:Nat):Prop where
 lx:xs.length=n
 lb:bs.length=n
 par:∀v:Int,0≤v→v<n→(gi bs v = -1∧t v = -1∧s v=0)∨(∃(k:Nat) (e:Diff),gi bs v=k∧l[k]? = some e∧e.x=v∧gi xs e.y+e.c≤gi xs v∧(s v<s e.y→gi xs e.y+e.c<gi xs v)∧0≤t v∧t v-1≤t e.y∧0<s v)
 rel:∀(k:Nat) (e:Diff),l[k]? = some e→gi xs e.y+e.c<gi xs e.x→(r:Int)-1≤t e.y∧(k<i→(r:Int)≤t e.y)
 tr:∀v,t v≤r
 inj:∀u v,0<s u→s u=s v→u=v
 sN:∀v,s v≤N
 last:(last = -1∧∀v,t v≤(r:Int)-1)∨(0≤last∧last<n∧t last=r)
 bd:∀v:Int,0≤v→v<n → -(M * ((r * l.length+i:Nat):Int))≤gi xs v∧gi xs v≤0
def Bell (n:Nat) (M:Int) (l:List Diff) (r i:Nat) (xs bs:List Int) (last:Int):Prop:=∃t s N,BF n M l r i xs bs last t s N
theorem Bell.start (n:Nat) (M:Int) (l:List Diff):Bell n M l 0 0 (List.replicate n 0) (List.replicate n (-1)) (-1):=by
 refine ⟨fun _ => -1,fun _=>0,0,by simp,by simp,fun v h0 h1 => .inl ⟨?_,rfl,rfl⟩,fun k e _ h => ?_,by simp,by simp,by simp, .inl ⟨rfl,by simp⟩,fun v h0 h1 => ?_⟩
 ·unfold gi;rw [List.getD_eq_getElem?_getD,List.getElem?_replicate,if_pos (by omega)];rfl
 ·simp
 ·have:gi (List.replicate n 0) v=0:=by unfold gi;rw [List.getD_eq_getElem?_getD,List.getElem?_replicate,if_pos (by omega)];rfl
  rw [this];simp
theorem Bell.no {n:Nat} {M:Int} {l:List Diff} {r i:Nat} {xs bs:List Int} {last:Int} (h:Bell n M l r i xs bs last) (hM:0≤M) {e:Diff} (he:l[i]? = some e) (hle:gi xs e.x≤gi xs e.y+e.c) :
  Bell n M l r (i+1) xs bs last:=by
 obtain ⟨t,s,N,h⟩:=h
 refine ⟨t,s,N,h.lx,h.lb,h.par,fun k e' hk hlt=>⟨(h.rel k e' hk hlt).1,fun hki => ?_⟩,h.tr,h.inj,h.sN,h.last,fun v h0 h1=>⟨?_,(h.bd v h0 h1).2⟩⟩
 ·by_cases hk':k=i
  ·subst hk';rw [he] at hk;injection hk with hk;subst hk;omega
  ·exact (h.rel k e' hk hlt).2 (by omega)
 ·have:=(h.bd v h0 h1).1
  have h3:M * ((r * l.length+(i+1):Nat):Int)=M * ((r * l.length+i:Nat):Int)+M:=by
   rw [show ((r * l.length+(i+1):Nat):Int)=((r * l.length+i:Nat):Int)+1 by omega,kG,jT]
  omega
theorem Bell.yes {n:Nat} {M:Int} {l:List Diff} {r i:Nat} {xs bs:List Int} {last:Int} (h:Bell n M l r i xs bs last) (hl:iJ n M l) {e:Diff} (he:l[i]? = some e) (hlt:gi xs e.y+e.c<gi xs e.x) :
  Bell n M l r (i+1) (xs.set e.x.toNat (gi xs e.y+e.c)) (bs.set e.x.toNat i) e.x:=by
 obtain ⟨t,s,N,h⟩:=h
 obtain ⟨x0,x1,y0,y1,hne,c0,c1⟩:=hl i e he
 have hgx:∀u,0≤u→gi (xs.set e.x.toNat (gi xs e.y+e.c)) u=if u=e.x then gi xs e.y+e.c else gi xs u:=fun u hu=>dW x0 (by rw [h.lx];exact x1) hu
 have hgb:∀u,0≤u→gi (bs.set e.x.toNat i) u=if u=e.x then (i:Int) else gi bs u:=fun u hu=>dW x0 (by rw [h.lb];exact x1) hu
 have hgle:∀u,0≤u→gi (xs.set e.x.toNat (gi xs e.y+e.c)) u≤gi xs u:=by
  intro u hu;rw [hgx u hu];split
  ·rename_i eq;subst eq;omega
  ·omega
 have hrel:=h.rel i e he hlt
 have sX:∀v,(if v=e.x then N+1 else s v)≤N+1:=by intro v;split;omega;have:=h.sN v;omega
 refine ⟨fun v=>if v=e.x then r else t v,fun v=>if v=e.x then N+1 else s v,N+1,by simp [h.lx],by simp [h.lb],fun v v0 v1 => ?_,fun k e2 hk h2 => ?_,fun v => ?_,fun u v hu huv => ?_,sX, .inr ⟨x0,x1,by simp⟩,fun v v0 v1 => ?_⟩
 ·by_cases hv:v=e.x
  ·right
   refine ⟨i,e,by rw [hgb v v0,if_pos hv],he,hv.symm,?_,?_,?_,?_,?_⟩
   ·rw [hgx v v0,if_pos hv,hgx e.y y0,if_neg (kY hne)];omega
   ·intro hs;rw [if_pos hv,if_neg (kY hne)] at hs;have:=h.sN e.y;omega
   ·simp [hv]
   ·rw [if_pos hv,if_neg (kY hne)];exact hrel.1
   ·simp [hv]
  ·rcases h.par v v0 v1 with ⟨p1,p2,p3⟩|⟨k,e2,p1,p2,p3,p4,p5,p6,p7,p8⟩
   ·left;exact ⟨by rw [hgb v v0,if_neg hv];exact p1,by simp [hv,p2],by simp [hv,p3]⟩
   ·right
    obtain ⟨_,_,y20,y21,hne2,_,_⟩:=hl k e2 p2
    refine ⟨k,e2,by rw [hgb v v0,if_neg hv];exact p1,p2,p3,?_,?_,by simp [hv,p6],?_,by simp [hv,p8]⟩
    ·rw [hgx v v0,if_neg hv];have:=hgle e2.y y20;omega
    ·intro hs;rw [hgx v v0,if_neg hv]
     by_cases hy:e2.y=e.x
     ·rw [hgx e2.y y20,if_pos hy];rw [hy] at p4;omega
     ·rw [if_neg hv,if_neg hy] at hs
      have:=p5 hs;have:=hgle e2.y y20;omega
    ·rw [if_neg hv];split
     ·have:=h.tr v;omega
     ·exact p7
 ·obtain ⟨x20,x21,y20,y21,hne2,_,_⟩:=hl k e2 hk
  by_cases hki:k=i
  ·subst hki;rw [he] at hk;injection hk with hk;subst hk
   rw [hgx e.x x0,if_pos rfl,hgx e.y y0,if_neg (kY hne)] at h2;omega
  ·by_cases hy:e2.y=e.x
   ·simp [hy];omega
   ·rw [hgx e2.y y20,if_neg hy] at h2
    have h3:gi xs e2.y+e2.c<gi xs e2.x:=by have:=hgle e2.x x20;omega
    obtain ⟨r1,r2⟩:=h.rel k e2 hk h3
    simp only [if_neg hy]
    exact ⟨r1,fun hk'=>r2 (by omega)⟩
 ·show (if v=e.x then (r:Int) else t v)≤r
  split
  ·omega
  ·exact h.tr v
 ·by_cases h1:u=e.x<;>by_cases h2:v=e.x
  ·rw [h1,h2]
  ·rw [if_pos h1,if_neg h2] at huv;have:=h.sN v;omega
  ·rw [if_neg h1,if_pos h2] at huv;have:=h.sN u;omega
  ·rw [if_neg h1] at hu;rw [if_neg h1,if_neg h2] at huv;exact h.inj u v hu huv
 ·have h3:M * ((r * l.length+(i+1):Nat):Int)=M * ((r * l.length+i:Nat):Int)+M:=by
   rw [show ((r * l.length+(i+1):Nat):Int)=((r * l.length+i:Nat):Int)+1 by omega,kG,jT]
  have b1:=h.bd v v0 v1
  have b2:=h.bd e.y y0 y1
  have b3:=h.bd e.x x0 x1
  rw [hgx v v0]
  split<;>omega
theorem Bell.next {n:Nat} {M:Int} {l:List Diff} {r:Nat} {xs bs:List Int} {last:Int} (h:Bell n M l r l.length xs bs last):Bell n M l (r+1) 0 xs bs (-1):=by
 obtain ⟨t,s,N,h⟩:=h
 refine ⟨t,s,N,h.lx,h.lb,h.par,fun k e hk hlt=>⟨?_,fun h0=>by omega⟩,fun v=>by have:=h.tr v;omega,h.inj,h.sN, .inl ⟨rfl,fun v=>by have:=h.tr v;omega⟩,fun v h0 h1 => ?_⟩
 ·have:=(h.rel k e hk hlt).2 (zG.1 hk).1;omega
 ·have:=h.bd v h0 h1
  rw [show (r+1) * l.length+0=r * l.length+l.length by rw [uO];omega];exact this
theorem Bell.solved {n:Nat} {M:Int} {l:List Diff} {r:Nat} {xs bs:List Int} (h:Bell n M l r l.length xs bs (-1)) {k:Nat} {e:Diff} (hk:l[k]? = some e):gi xs e.x≤gi xs e.y+e.c:=by
 obtain ⟨t,s,N,h⟩:=h
 rcases Int.lt_or_le (gi xs e.y+e.c) (gi xs e.x) with hlt|hge
 ·have h1:=(h.rel k e hk hlt).2 (zG.1 hk).1
  rcases h.last with ⟨_,h2⟩|⟨h2,_⟩
  ·have:=h2 e.y;omega
  ·omega
 ·exact hge
theorem Bell.lens {n:Nat} {M:Int} {l:List Diff} {r i:Nat} {xs bs:List Int} {last:Int} (h:Bell n M l r i xs bs last):xs.length=n∧bs.length=n:=by
 obtain ⟨t,s,N,h⟩:=h;exact ⟨h.lx,h.lb⟩
theorem Bell.bound {n:Nat} {M:Int} {l:List Diff} {r i:Nat} {xs bs:List Int} {last:Int} (h:Bell n M l r i xs bs last):∀v:Int,0≤v→v<n → -(M * ((r * l.length+i:Nat):Int))≤gi xs v∧gi xs v≤0:=by
 obtain ⟨t,s,N,h⟩:=h;exact h.bd
def Way (n:Nat) (l:List Diff) (bs:List Int) (p:Nat→Int):Prop :=
 ∀j,0≤p j∧p j<n∧∃(k:Nat) (e:Diff),gi bs (p j)=k∧l[k]? = some e∧e.x=p j∧e.y=p (j+1)
theorem pigeon (n:Nat) (p:Nat→Int) (h:∀j,j≤n→0≤p j∧p j<n):∃j k,j<k∧k≤n∧p j=p k:=by
 induction n generalizing p with
 | zero=>have:=h 0 (by omega);omega
 | succ n ih =>
  by_cases hx:∃j,j≤n∧p j=p (n+1)
  ·obtain ⟨j,hj,e⟩:=hx;exact ⟨j,n+1,by omega,by omega,e⟩
  ·have hne:∀j,j≤n→p j≠p (n+1):=fun j hj e=>hx ⟨j,hj,e⟩
   have hl:=h (n+1) (by omega)
   obtain ⟨j,k,h1,h2,h3⟩:=ih (fun j=>if p j=n then p (n+1) else p j) (fun j hj=>by
    have h1:=h j (by omega);have h2:=hne j hj
    show 0≤(if p j=n then p (n+1) else p j)∧(if p j=n then p (n+1) else p j)<n
    split<;>omega)
   refine ⟨j,k,h1,by omega,?_⟩
   have hj:=hne j (by omega)
   have hk:=hne k (by omega)
   split at h3<;>split at h3<;>omega
theorem least_of {P:Nat→Prop} {d:Nat} (h0:0<d) (h:P d):∃m,0<m∧m≤d∧P m∧∀k,0<k→k<m→¬P k:=by
 induction d using Nat.strongRecOn with
 | ind d ih =>
  by_cases hx:∃k,0<k∧k<d∧P k
  ·obtain ⟨k,k0,kd,hk⟩:=hx
   obtain ⟨m,m0,m1,m2,m3⟩:=ih k kd k0 hk
   exact ⟨m,m0,by omega,m2,m3⟩
  ·exact ⟨d,h0,by omega,h,fun k k0 kd hk=>hx ⟨k,k0,kd,hk⟩⟩
def itN (f:Int→Int) (a:Int):Nat→Int
 | 0=>a
 | j+1=>f (itN f a j)
def nH (l:List Diff) (bs:List Int) (p:Nat→Int) (a:Nat):Nat→Int
 | 0=>0
 | m+1=>nH l bs p a m+((l[(gi bs (p (a+m))).toNat]?).getD ⟨0,0,0⟩).c
theorem Bell.way {n:Nat} {M:Int} {l:List Diff} {r:Nat} {xs bs:List Int} {last:Int} (h:Bell n M l r l.length xs bs last) (hl:iJ n M l) (h0:0≤last) (hr:n≤r+1) :
  ∃p:Nat→Int,p 0=last∧Way n l bs p∧∃d,0<d∧d≤n∧p (n+d)=p n∧(∀m,0<m→m<d→p (n+m)≠p n)∧nH l bs p n d<0:=by
 obtain ⟨t,s,N,h⟩:=h
 have hlast:0≤last∧last<n∧t last=r:=by
  rcases h.last with ⟨h1,_⟩|h1
  ·omega
  ·exact h1
 let nxt:Int→Int:=fun v=>((l[(gi bs v).toNat]?).getD ⟨0,0,0⟩).y
 let p:Nat→Int:=itN nxt last
 have hp:∀j,p (j+1)=nxt (p j):=fun _=>rfl
 have hstep:∀v:Int,0≤v→v<n→gi bs v ≠ -1→0≤nxt v∧nxt v<n∧t v-1≤t (nxt v)∧∃(k:Nat) (e:Diff),gi bs v=k∧l[k]? = some e∧e.x=v∧e.y=nxt v:=by
  intro v v0 v1 hv
  rcases h.par v v0 v1 with ⟨p1,_⟩|⟨k,e,p1,p2,p3,p4,p5,p6,p7,p8⟩
  ·exact absurd p1 hv
  ·have e1:nxt v=e.y:=by show ((l[(gi bs v).toNat]?).getD ⟨0,0,0⟩).y=e.y;rw [p1,Int.toNat_natCast,p2];rfl
   obtain ⟨_,_,y0,y1,_⟩:=hl k e p2
   rw [e1]
   exact ⟨y0,y1,p7,k,e,p1,p2,p3,rfl⟩
 have hgood:∀v:Int,0≤v→v<n→0≤t v→gi bs v ≠ -1:=by
  intro v v0 v1 tv hb
  rcases h.par v v0 v1 with ⟨_,p2,_⟩|⟨k,e,p1,_⟩
  ·omega
  ·omega
 have hch:∀j,j≤n→(0≤p j∧p j<n)∧(r:Int)-j≤t (p j):=by
  intro j
  induction j with
  | zero=>intro _;exact ⟨⟨hlast.1,hlast.2.1⟩,by show (r:Int)-0≤t last;omega⟩
  | succ j ih =>
   intro hj
   obtain ⟨⟨a0,a1⟩,a2⟩:=ih (by omega)
   obtain ⟨b0,b1,b2,_⟩:=hstep (p j) a0 a1 (hgood _ a0 a1 (by omega))
   rw [hp j]
   exact ⟨⟨b0,b1⟩,by omega⟩
 obtain ⟨j,k,hjk,hkn,hpe⟩:=pigeon n p fun j hj=>(hch j hj).1
 have hper:∀m,p (j+m+(k-j))=p (j+m):=by
  intro m
  induction m with
  | zero=>rw [kX,show j+(k-j)=k by omega];exact hpe.symm
  | succ m ih=>rw [show j+(m+1)+(k-j)=j+m+(k-j)+1 by omega,hp,ih,show j+(m+1)=j+m+1 by omega,hp]
 have hall:∀m,(0≤p m∧p m<n)∧gi bs (p m) ≠ -1:=by
  intro m
  induction m using Nat.strongRecOn with
  | ind m ih =>
   by_cases hm:m<n
   ·obtain ⟨a,b⟩:=hch m (by omega)
    exact ⟨a,hgood _ a.1 a.2 (by omega)⟩
   ·have e:p m=p (m-(k-j)):=by
     have:=hper (m-(k-j)-j)
     rw [show j+(m-(k-j)-j)+(k-j)=m by omega,show j+(m-(k-j)-j)=m-(k-j) by omega] at this
     exact this
    rw [e];exact ih _ (by omega)
 have hway:Way n l bs p:=fun m=>by
  obtain ⟨⟨a0,a1⟩,a2⟩:=hall m
  obtain ⟨_,_,_,k,e,q1,q2,q3,q4⟩:=hstep (p m) a0 a1 a2
  exact ⟨a0,a1,k,e,q1,q2,q3,by rw [q4,hp]⟩
 obtain ⟨d,d0,d1,d2,d3⟩:=least_of (P:=fun d=>p (n+d)=p n) (d:=k-j) (by omega) (by
  have:=hper (n-j)
  rwa [show j+(n-j)=n by omega] at this)
 refine ⟨p,rfl,hway,d,d0,by omega,d2,d3,?_⟩
 have hedge:∀m,gi xs (p (m+1))+((l[(gi bs (p m)).toNat]?).getD ⟨0,0,0⟩).c≤gi xs (p m)∧(s (p m)<s (p (m+1))→gi xs (p (m+1))+((l[(gi bs (p m)).toNat]?).getD ⟨0,0,0⟩).c<gi xs (p m))∧0<s (p m)∧p (m+1)≠p m:=by
  intro m
  obtain ⟨⟨a0,a1⟩,a2⟩:=hall m
  rcases h.par (p m) a0 a1 with ⟨p1,_⟩|⟨k,e,p1,p2,p3,p4,p5,p6,p7,p8⟩
  ·exact absurd p1 a2
  ·have e1:p (m+1)=e.y:=by rw [hp];show ((l[(gi bs (p m)).toNat]?).getD ⟨0,0,0⟩).y=e.y;rw [p1,Int.toNat_natCast,p2];rfl
   rw [e1,p1,Int.toNat_natCast,p2]
   obtain ⟨_,_,_,_,hne,_⟩:=hl k e p2
   exact ⟨p4,p5,p8,by rw [←p3];exact kY hne⟩
 have htel:∀m,gi xs (p (n+m))+nH l bs p n m≤gi xs (p n)∧((∃q,q<m∧s (p (n+q))<s (p (n+q+1)))→gi xs (p (n+m))+nH l bs p n m<gi xs (p n)):=by
  intro m
  induction m with
  | zero=>exact ⟨by simp [nH],fun ⟨q,hq,_⟩=>by omega⟩
  | succ m ih =>
   obtain ⟨i1,i2⟩:=ih
   obtain ⟨g1,g2,_,_⟩:=hedge (n+m)
   rw [show n+(m+1)=n+m+1 by omega,nH]
   refine ⟨by omega,fun ⟨q,hq,hs⟩ => ?_⟩
   by_cases hqm:q=m
   ·subst hqm;have:=g2 hs;omega
   ·have:=i2 ⟨q,by omega,hs⟩;omega
 obtain ⟨t1,t2⟩:=htel d
 rw [d2] at t1 t2
 have:∃q,q<d∧s (p (n+q))<s (p (n+q+1)):=by
  refine qF fun hno => ?_
  have hdn:∀q,q≤d→s (p (n+d))≤s (p (n+(d-q))):=by
   intro q
   induction q with
   | zero=>intro _;exact Nat.le_refl _
   | succ q ih =>
    intro hq
    have h1:=ih (by omega)
    have h2:¬s (p (n+(d-(q+1))))<s (p (n+(d-(q+1))+1)):=fun hs=>hno ⟨d-(q+1),by omega,hs⟩
    rw [show n+(d-(q+1))+1=n+(d-q) by omega] at h2
    omega
  have h1:=hdn (d-1) (by omega)
  rw [show n+(d-(d-1))=n+1 by omega,d2] at h1
  have h2:¬s (p (n+0))<s (p (n+0+1)):=fun hs=>hno ⟨0,d0,hs⟩
  simp only [kX] at h2
  obtain ⟨_,_,g3,g4⟩:=hedge n
  exact g4 (h.inj (p (n+1)) (p n) (by omega) (by omega))
 have:=t2 this
 omega
end Go.Proofs.Yticieifacalocaa
