/- RchkL HoldsR AnyR SatR -/
import Derived.Test.YticieifacalocaaTSG49
namespace Go.Proofs.Yticieifacalocaa
open Go.RowKit
set_option maxRecDepth 100000 in
set_option maxHeartbeats 1000000 in
theorem rJ (fv lv:Value) (f:Form) (l:List Stp) (w:World) (hf:IsForm w fv f) (hl:Stps w lv l) (hq:oG f l) :
  Calls Try.prog 43 #[fv,lv] w (ChkRet w (chk (wZ f [] l) l.length)):=by
 have HF:=Lib.hid hf
 have HQ:=Lib.hid hq
 have HL:=Lib.hid hl
 obtain ⟨av,cv,rfl, -, -,hf3,hf4⟩:=hf
 obtain ⟨Aa,ca,rfl, -, -, -, -⟩:=hf3
 obtain ⟨Ac,cc,vs,rfl, -, -, -, -, -⟩:=hf4
 obtain ⟨A,c,ps,hps,rfl,l1,l2, -, -⟩:=hl
 have hpl:ps.length=l.length:=by rw [hps];simp
 have HPL:=Lib.hid hpl
 unfold maxLen at l2
 have hpn:ps.length≤1099511627776:=by have:=hq.2.2.1;omega
 clear hq hps hpl
 have HB:Hid (Below w.heap.size w (w.alloc (.cells #[.int .i64 f.ints, .int .i64 f.bools, .slice Aa f.atoms.length ca, .slice Ac f.clauses.length cc] 29))):=(zN _ _).alloc (Nat.le_refl _) _
 go_enter Try.func43,Try.ntmps43
 go_wp2_with fail
 refine (mV _ _ f l _ (HF.out.keep HB.out) (HL.out.keep HB.out) HQ.out).mono ?_
 rintro e w2 hret
 cases hr:wZ f [] l with
 | mk cs ok =>
  have HR:=Lib.hid hr
  rw [hr] at hret
  rcases hret with ⟨h1,v,rfl,us,hom,hb⟩|⟨h1,rfl,hb⟩
  ·simp only at h1
   subst h1
   have hcl:cs.length=ps.length:=by have:=runS_len (f:=f) l [] (by rw [hr]);rw [hr] at this;simpa [HPL.out] using this
   have hul:us.length=ps.length:=by rw [hom.2.1];exact hcl
   have HB2:=Lib.hid (HB.out.trans (hb.mono HB.out.size))
   have HM:=Lib.hid hom.mat
   obtain ⟨Ax,cx,hx, -, -,hrd⟩:=wD hom.1
   subst hx
   have HOM:=Lib.hid hom
   have HRD:=Lib.hid hrd
   have HCL:=Lib.hid hcl
   have HUL:=Lib.hid hul
   clear hr hb hom hrd hcl hul
   by_cases h0:ps.length=0
   ·have d0:((ps.length:Int) == 0)=true:=by simp;exact qS h0
    have HC:Hid (chk (wZ f [] l) l.length=((ps.length:Int),15)):=by refine Lib.hid ?_;rw [HR.out,←HPL.out];unfold chk;rw [if_pos rfl,if_pos (.inl h0)]
    clear h0
    go_wp2_with fail
    go_ret2
    exact ⟨by rw [HC.out];rfl,HB2.out⟩
   ·have d0:((ps.length:Int) == 0)=false:=by simp;intro h;exact h0 (by rw [h];rfl)
    obtain ⟨c,hc⟩:∃c,cs[ps.length-1]? = some c:=⟨_,List.getElem?_eq_getElem (by have:=HCL.out;omega)⟩
    obtain ⟨A',c',vs',hv',m1,m2,m3,m4,m5⟩:=HM.out
    injection hv' with e1 e2 e3
    subst e1 e3
    obtain ⟨b,off,A1,c1,rfl,hb,hcell,hI⟩:=Mat.at_ m4 m3 m5 hc
    have HD:Hid (cs.getD (ps.length-1) []=c):=by refine Lib.hid ?_;simp [List.getD,hc]
    have hps0:1≤ps.length:=by omega
    have huI:Hid (us.length=ps.length):=HUL.out
    have hidx:((ps.length:Int)-1).toNat=ps.length-1:=by omega
    have hlt:(ps.length:Int)-1<(us.length:Int):=by have:=HUL.out;omega
    clear m1 m2 m3 m4 m5 hc hI e2
    by_cases hc0:c=[]
    ·subst hc0
     have HC:Hid (chk (wZ f [] l) l.length=(0,0)):=by refine Lib.hid ?_;rw [HR.out,←HPL.out];unfold chk;rw [if_pos rfl,if_neg (by rw [HD.out];exact fun h=>h.elim h0 fun h=>h rfl)]
     simp only [xC] at hcell
     clear h0
     go_wp2_with fail
     go_ret2
     exact ⟨by rw [HC.out];rfl,HB2.out⟩
    ·have HC:Hid (chk (wZ f [] l) l.length=((ps.length:Int),15)):=by refine Lib.hid ?_;rw [HR.out,←HPL.out];unfold chk;rw [if_pos rfl,if_pos (.inr (by rw [HD.out];exact hc0))]
     have hcl:0<c.length:=jM.2 hc0
     have dc:decide ((0:Int)<(c.length:Int))=true:=by simp;omega
     have dc':decide (0<c.length)=true:=by simp;omega
     clear h0 hc0
     go_wp2_with fail
     go_ret2
     exact ⟨by rw [HC.out];rfl,HB2.out⟩
  ·simp only at h1
   subst h1
   have HB2:=Lib.hid (HB.out.trans (hb.mono HB.out.size))
   have HC:Hid (chk (wZ f [] l) l.length=((cs.length:Int),15)):=by refine Lib.hid ?_;rw [HR.out];rfl
   have dn:decide ((0:Int)≤(cs.length:Int))=true:=by simp
   clear hr hb
   go_wp2_with fail
   go_ret2
   exact ⟨by rw [HC.out];rfl,HB2.out⟩
section
variable (bv iv:Value) (bs:List Bool) (w:World)
theorem pO :
  Calls Try.prog 29 #[.int .i64 0, .agg #[bv,iv]] w fun e w'=>e = .returned (.bool false)∧Below w.heap.size w w':=by
 go_enter Try.func29,Try.ntmps29
 go_wp2
 go_ret
 exact ⟨rfl,by go_grown⟩
theorem rholds_pos (n:Nat) (hb:Bools w bv bs) (hl:n+1≤9223372036854775807) :
  Calls Try.prog 29 #[.int .i64 ((n:Int)+1), .agg #[bv,iv]] w fun e w'=>e = .returned (.bool (bs.getD n false))∧Below w.heap.size w w':=by
 obtain ⟨A,c,rfl,h1,h2,hr⟩:=hb
 unfold maxLen at h2
 have hz:(((n:Int)+1) == 0)=false:=by simp;omega
 by_cases hlt:n<bs.length
 ·obtain ⟨x,hx⟩:∃x,bs[n]? = some x:=⟨_,List.getElem?_eq_getElem hlt⟩
  obtain ⟨b1,o1,rfl,hb1,hc1⟩:=hr.bool hx
  have HX:bs.getD n false=x:=by simp [List.getD,hx]
  rw [HX]
  clear hx hr HX
  have h3:decide ((bs.length:Int)<(n:Int)+1)=false:=by simp;omega
  have h4:decide ((n:Int)+1 < -(bs.length:Int))=false:=by simp;omega
  go_enter Try.func29,Try.ntmps29
  go_wp2
  go_ret
  exact ⟨by simp,by go_grown⟩
 ·have HX:bs.getD n false=false:=by simp [List.getD,List.getElem?_eq_none (Nat.le_of_not_lt hlt)]
  rw [HX]
  clear hr HX
  have h3:decide ((bs.length:Int)<(n:Int)+1)=true:=by simp;omega
  go_enter Try.func29,Try.ntmps29
  go_wp2
  go_ret
  exact ⟨by simp,by go_grown⟩
theorem rholds_neg (n:Nat) (hb:Bools w bv bs) (hl:n+1≤9223372036854775808) :
  Calls Try.prog 29 #[.int .i64 (-((n:Int)+1)), .agg #[bv,iv]] w fun e w'=>e = .returned (.bool ((bs[n]?).any (!·)))∧Below w.heap.size w w':=by
 obtain ⟨A,c,rfl,h1,h2,hr⟩:=hb
 unfold maxLen at h2
 have hz:((-((n:Int)+1)) == 0)=false:=by simp;omega
 have h3:decide ((bs.length:Int) < -((n:Int)+1))=false:=by simp;omega
 by_cases hlt:n<bs.length
 ·obtain ⟨x,hx⟩:∃x,bs[n]? = some x:=⟨_,List.getElem?_eq_getElem hlt⟩
  obtain ⟨b1,o1,rfl,hb1,hc1⟩:=hr.bool hx
  rw [hx]
  clear hx hr
  have h4:decide (-((n:Int)+1) < -(bs.length:Int))=false:=by simp;omega
  go_enter Try.func29,Try.ntmps29
  go_wp2
  go_ret
  exact ⟨by simp,by go_grown⟩
 ·have HX:(bs[n]?).any (!·)=false:=by simp [List.getElem?_eq_none (Nat.le_of_not_lt hlt)]
  rw [HX]
  clear hr HX
  have h4:decide (-((n:Int)+1) < -(bs.length:Int))=true:=by simp;omega
  go_enter Try.func29,Try.ntmps29
  go_wp2
  go_ret
  exact ⟨by simp,by go_grown⟩
theorem rholds_any (lit:Int) (hb:Bools w bv bs) (hl:I64 lit) :
  Calls Try.prog 29 #[.int .i64 lit, .agg #[bv,iv]] w fun e w'=>e = .returned (.bool (holds bs lit))∧Below w.heap.size w w':=by
 obtain ⟨hl1,hl2⟩:=hl
 rcases cE lit with rfl|⟨n,rfl⟩|⟨n,rfl⟩
 ·exact pO bv iv w
 ·rw [dM];exact rholds_pos bv iv bs w n hb (by omega)
 ·rw [cB];exact rholds_neg bv iv bs w n hb (by omega)
end
section
variable (bv iv:Value) (bs:List Bool)
set_option maxRecDepth 100000 in
theorem rany_any (v:Value) (zs:List Int) (w:World) (hv:Ints w v zs) (hB:Bools w bv bs) :
  Calls Try.prog 23 #[v, .agg #[bv,iv]] w fun e w'=>e = .returned (.bool (zs.any (holds bs)))∧Below w.heap.size w w':=by
 obtain ⟨A,c,rfl,h1,h2,h3,hr⟩:=hv
 unfold maxLen at h2
 have HX:=Lib.hid h3
 have HR:=Lib.hid hr
 have HBO:=Lib.hid hB
 obtain ⟨A',c',rfl,h1',h2', -⟩:=hB
 clear h3 hr h2'
 go_enter Try.func23,Try.ntmps23
 go_wp2_with fail
 have B0:=Blk.new w 35 #[.slice A' bs.length c',iv]
 generalize hW:w.alloc (.cells #[.slice A' bs.length c',iv] 35)=W at B0 ⊢
 have hbW:Below w.heap.size w W:=by rw [←hW];go_grown
 have HBW:=Lib.hid hbW
 have hszW:w.heap.size<W.heap.size:=by rw [←hW];simp
 have HB0:=Lib.hid B0
 clear hW B0 hbW
 go_loopw [9] (fun i wr=>∃k:Nat,k≤zs.length∧i = .int .i64 k∧(zs.take k).any (holds bs)=false∧Below W.heap.size W wr) (fun i _=>zs.length-(intOf i).toNat)
 case atStart=>exact ⟨0,by omega,rfl,by simp,zN _ _⟩
 case round =>
  obtain ⟨k,hk,rfl,hany,hbw⟩:=hrel
  have HBR:=Lib.hid hbw
  have HAN:=Lib.hid hany
  have B1:=HB0.out.keep hbw
  have q0:=B1.cell 0
  have q1:=B1.cell 1
  simp only [zA,zB,zC] at q0 q1
  have HBB:Hid (Below w.heap.size w wr):=HBW.out.trans (hbw.mono HBW.out.size)
  clear hbw hany B1
  by_cases hlt:k<zs.length
  ·obtain ⟨x,hxk⟩:∃x,zs[k]? = some x:=⟨_,List.getElem?_eq_getElem hlt⟩
   obtain ⟨b1,o1,rfl,hb1,hc1⟩:=(HR.out.keep HBB.out).int hxk
   have HXK:=Lib.hid hxk
   clear hxk
   go_wp2_with fail
   refine (rholds_any _ _ bs _ _ (HBO.out.keep HBB.out) (HX.out x (List.mem_of_getElem? HXK.out))).mono ?_
   rintro e w2 ⟨rfl,hb2⟩
   have HB2:=Lib.hid hb2
   clear hb2
   cases hq:holds bs x with
   | true =>
    have HQ:=Lib.hid hq
    clear hq
    simp only
    go_wp2_with fail
    go_ret
    exact ⟨by rw [any_at HXK.out HQ.out];rfl,HBB.out.trans (HB2.out.mono HBB.out.size)⟩
   | false =>
    have HQ:=Lib.hid hq
    clear hq
    simp only
    go_wp2_with fail
    refine ⟨⟨k+1,by omega,by go_num,nC HAN.out HXK.out HQ.out,HBR.out.trans (HB2.out.mono HBR.out.size)⟩,by simp [intOf];omega⟩
  ·go_wp2_with fail
   go_ret
   exact ⟨by rw [oE HAN.out (by omega)];rfl,HBB.out⟩
end
section
variable (av cv bv iv:Value) (xs:List Int) (bs:List Bool) (w:World)
set_option maxRecDepth 100000 in
theorem rsat_head1 (f:Form) (hA:Diffs w av f.atoms) (hM:Mat w cv f.clauses) (hB:Bools w bv bs) (hX:Ints w iv xs) (g1:(bs.length:Int)≠f.bools) :
  Calls Try.prog 42 #[.agg #[.int .i64 f.ints, .int .i64 f.bools,av,cv], .agg #[bv,iv]] w fun e w'=>e = .returned (.bool false)∧Below w.heap.size w w':=by
 obtain ⟨A,c,rfl, -, -, -, -⟩:=hA
 obtain ⟨A',c',vs,rfl, -, -, -, -, -⟩:=hM
 obtain ⟨A2,c2,rfl, -, -, -⟩:=hB
 obtain ⟨A3,c3,rfl, -, -, -, -⟩:=hX
 obtain ⟨ints,bools,atoms,clauses⟩:=f
 simp only at *
 have d1:((bs.length:Int) != bools)=true:=by simp [g1]
 clear g1
 go_enter Try.func42,Try.ntmps42
 go_wp2_with fail
 go_ret
 exact ⟨rfl,by go_grown⟩
set_option maxRecDepth 100000 in
theorem sU (f:Form) (hA:Diffs w av f.atoms) (hM:Mat w cv f.clauses) (hB:Bools w bv bs) (hX:Ints w iv xs) (g1:(bs.length:Int)=f.bools) (g2:(xs.length:Int)≠f.ints) :
  Calls Try.prog 42 #[.agg #[.int .i64 f.ints, .int .i64 f.bools,av,cv], .agg #[bv,iv]] w fun e w'=>e = .returned (.bool false)∧Below w.heap.size w w':=by
 obtain ⟨A,c,rfl, -, -, -, -⟩:=hA
 obtain ⟨A',c',vs,rfl, -, -, -, -, -⟩:=hM
 obtain ⟨A2,c2,rfl, -, -, -⟩:=hB
 obtain ⟨A3,c3,rfl, -, -, -, -⟩:=hX
 obtain ⟨ints,bools,atoms,clauses⟩:=f
 simp only at *
 subst g1
 have d2:((xs.length:Int) != ints)=true:=by simp [g2]
 clear g2
 go_enter Try.func42,Try.ntmps42
 go_wp2_with fail
 go_ret
 exact ⟨rfl,by go_grown⟩
set_option maxRecDepth 100000 in
set_option maxHeartbeats 4000000 in
theorem rsat_body (atoms:List Diff) (clauses:List (List Int)) (hA:Diffs w av atoms) (hM:Mat w cv clauses) (hB:Bools w bv bs) (hX:Ints w iv xs)
  (g1:atoms.length≤bs.length) (hat:∀d∈atoms,cW xs.length d=true) (h40:∀x∈xs,Forty x) (g2:bs.length≤1024) (g4:clauses.length≤32768) :
  Calls Try.prog 42 #[.agg #[.int .i64 xs.length, .int .i64 bs.length,av,cv], .agg #[bv,iv]] w (SatRet w (SatB atoms clauses xs bs)):=by
 have HBO:=Lib.hid hB
 have HIX:=Lib.hid hX
 have HAT:=Lib.hid hat
 have H40:=Lib.hid h40
 obtain ⟨A,c,rfl, -, -, -,har⟩:=hA
 obtain ⟨A',c',vs,rfl, -, -,hc3,hcr,hci⟩:=hM
 obtain ⟨A2,c2,rfl, -, -,hbr⟩:=hB
 obtain ⟨A3,c3,rfl, -, -, -,hxr⟩:=hX
 have HCR:=Lib.hid hcr
 have HCI:=Lib.hid hci
 have HC3:=Lib.hid hc3
 have HAR:=Lib.hid har
 have HBR:=Lib.hid hbr
 have HXR:=Lib.hid hxr
 clear har hcr hci hc3 hbr hxr hat h40
 have d6:decide (bs.length<atoms.length)=false:=by simp;omega
 go_enter Try.func42,Try.ntmps42
 go_wp2_with fail
 have B0:=(Blk.new w 29 #[.int .i64 xs.length, .int .i64 bs.length, .slice A atoms.length c, .slice A' clauses.length c']).alloc (.cells #[.slice A2 bs.length c2, .slice A3 xs.length c3] 35)
 have B1:=Blk.new (w.alloc (.cells #[.int .i64 xs.length, .int .i64 bs.length, .slice A atoms.length c, .slice A' clauses.length c'] 29)) 35 #[.slice A2 bs.length c2, .slice A3 xs.length c3]
 simp only [xL] at B1
 generalize hW:(w.alloc (.cells #[.int .i64 xs.length, .int .i64 bs.length, .slice A atoms.length c, .slice A' clauses.length c'] 29)).alloc (.cells #[.slice A2 bs.length c2, .slice A3 xs.length c3] 35)=W at B0 B1 ⊢
 have hbW:Below w.heap.size w W:=by rw [←hW];go_grown
 have hszW:W.heap.size=w.heap.size+2:=by rw [←hW];simp
 have HBW:=Lib.hid hbW
 have HSW:=Lib.hid hszW
 have HB0:=Lib.hid B0
 have HB1:=Lib.hid B1
 clear hW B0 B1 hbW hszW
 go_loopw [26] (fun i wr=>∃k:Nat,k≤atoms.length∧i = .int .i64 k∧(∀(j:Nat) (d:Diff),j<k→atoms[j]? = some d→atomOk xs bs j d=true)∧Below W.heap.size W wr) (fun i _=>atoms.length-(intOf i).toNat)
 case atStart=>exact ⟨0,by omega,rfl,fun j d hj=>absurd hj (by omega),zN _ _⟩
 case round =>
  obtain ⟨k,hk,rfl,hall,hbw⟩:=hrel
  have HALL:=Lib.hid hall
  have HBQ:=Lib.hid hbw
  have HBB:Hid (Below w.heap.size w wr):=HBW.out.trans (hbw.mono HBW.out.size)
  have HK0:=Lib.hid (HB0.out.keep hbw)
  have HK1:=Lib.hid (HB1.out.keep hbw)
  have q0:=HK0.out.cell 0
  have q1:=HK0.out.cell 1
  have q2:=HK0.out.cell 2
  have q3:=HK0.out.cell 3
  have r0:=HK1.out.cell 0
  have r1:=HK1.out.cell 1
  simp only [zA,zB,zC] at q0 q1 q2 q3 r0 r1
  have hz:w.heap.size+1<wr.heap.size:=by have:=hbw.size;have:=HSW.out;omega
  have hz0:w.heap.size<wr.heap.size:=by omega
  have hz2:W.heap.size≤wr.heap.size:=hbw.size
  clear hall hbw
  by_cases hlt:k<atoms.length
  ·obtain ⟨d,hd⟩:∃d,atoms[k]? = some d:=⟨_,List.getElem?_eq_getElem hlt⟩
   have hok:=HAT.out d (List.mem_of_getElem? hd)
   obtain ⟨b1,o1,rfl,hb1,hc1,hc2,hc3⟩:=(HAR.out.keep HBB.out).diff hd
   obtain ⟨x,y,z⟩:=d
   have HD:=Lib.hid hd
   clear hd
   simp only at hc1 hc2 hc3
   obtain ⟨k1,k2,k3,k4,k5,k6,k7⟩:=dO.1 hok
   clear hok k5
   obtain ⟨m,rfl⟩:∃m:Nat,x=m:=⟨x.toNat,by omega⟩
   obtain ⟨n,rfl⟩:∃n:Nat,y=n:=⟨y.toNat,by omega⟩
   obtain ⟨a,ha⟩:∃a,xs[m]? = some a:=⟨_,List.getElem?_eq_getElem (by omega)⟩
   obtain ⟨b,hb⟩:∃b,xs[n]? = some b:=⟨_,List.getElem?_eq_getElem (by omega)⟩
   obtain ⟨t,ht⟩:∃t,bs[k]? = some t:=⟨_,List.getElem?_eq_getElem (by omega)⟩
   obtain ⟨b2,o2,rfl,hb2,hca⟩:=(HXR.out.keep HBB.out).int ha
   obtain ⟨b3,o3,hb3e,hb3,hcb⟩:=(HXR.out.keep HBB.out).int hb
   injection hb3e with hb3e
   injection hb3e with e1 e2 _
   subst e1 e2
   obtain ⟨b4,o4,rfl,hb4,hct⟩:=(HBR.out.keep HBB.out).bool ht
   obtain ⟨ha1,ha2⟩:=H40.out a (List.mem_of_getElem? ha)
   obtain ⟨hb1',hb2'⟩:=H40.out b (List.mem_of_getElem? hb)
   have HOK:Hid (atomOk xs bs k ⟨m,n,z⟩=(t == decide (a-b≤z))):=by
    show atomOk xs bs k ⟨m,n,z⟩=(t == decide (a-b≤z))
    simp only [atomOk,Int.toNat_natCast,oY ha,oY hb,oY ht]
   clear ha hb ht
   have y1:IntKind.i64.wrap (a-b)=a-b:=yG _ (by omega)
   have y2:((m:Int)).toNat=m:=by omega
   have y3:((n:Int)).toNat=n:=by omega
   generalize hdz:decide (a-b≤z)=dz at HOK
   go_wp2_with fail
   have BD:=Blk.new wr 50 #[.int .i64 m, .int .i64 n, .int .i64 z]
   generalize hW2:wr.alloc (.cells #[.int .i64 m, .int .i64 n, .int .i64 z] 50)=W2 at BD ⊢
   have hbW2:Below wr.heap.size wr W2:=by rw [←hW2];go_grown
   have p0:=BD.cell 0
   have p1:=BD.cell 1
   have p2:=BD.cell 2
   simp only [zA,zB,zC] at p0 p1 p2
   have r0:=(hbW2.cell (p:=⟨w.heap.size+1,0,none⟩) hz).trans r0
   have r1:=(hbW2.cell (p:=⟨w.heap.size+1,1,none⟩) hz).trans r1
   have hca:=(hbW2.cell (p:=⟨b2,o2+m,none⟩) hb2).trans hca
   have hcb:=(hbW2.cell (p:=⟨b2,o2+n,none⟩) hb3).trans hcb
   have hct:=(hbW2.cell (p:=⟨b4,o4+k,none⟩) hb4).trans hct
   have HBW2:=Lib.hid hbW2
   clear hW2 hbW2 BD
   cases t<;>cases dz
   ·go_quiet (fail)
    go_wp2_with fail
    have HNX:Hid (∀(j:Nat) (d:Diff),j<k+1→atoms[j]? = some d→atomOk xs bs j d=true):=by
     intro j d hj hjd
     by_cases e:j=k
     ·subst e
      rw [HD.out] at hjd
      injection hjd with hjd
      subst hjd
      rw [HOK.out]
      rfl
     ·exact HALL.out j d (by omega) hjd
    go_roundw
    case rel=>exact ⟨k+1,by omega,by go_num,HNX.out,iE (HBQ.out.trans (HBW2.out.mono HBQ.out.size)) _⟩
    case measure=>simp [intOf];omega
   ·go_quiet (fail)
    go_wp2_with fail
    go_ret
    refine ⟨⟨_,rfl,?_⟩,iE (HBB.out.trans (HBW2.out.mono HBB.out.size)) _⟩
    refine ⟨fun h=>Bool.noConfusion h,fun h => ?_⟩
    have h1:=h.1 k _ HD.out
    rw [HOK.out] at h1
    cases h1
   ·go_quiet (fail)
    go_wp2_with fail
    go_ret
    refine ⟨⟨_,rfl,?_⟩,iE (HBB.out.trans (HBW2.out.mono HBB.out.size)) _⟩
    refine ⟨fun h=>Bool.noConfusion h,fun h => ?_⟩
    have h1:=h.1 k _ HD.out
    rw [HOK.out] at h1
    cases h1
   ·go_quiet (fail)
    go_wp2_with fail
    have HNX:Hid (∀(j:Nat) (d:Diff),j<k+1→atoms[j]? = some d→atomOk xs bs j d=true):=by
     intro j d hj hjd
     by_cases e:j=k
     ·subst e
      rw [HD.out] at hjd
      injection hjd with hjd
      subst hjd
      rw [HOK.out]
      rfl
     ·exact HALL.out j d (by omega) hjd
    go_roundw
    case rel=>exact ⟨k+1,by omega,by go_num,HNX.out,iE (HBQ.out.trans (HBW2.out.mono HBQ.out.size)) _⟩
    case measure=>simp [intOf];omega
  ·have HAT2:Hid (∀(j:Nat) (d:Diff),atoms[j]? = some d→atomOk xs bs j d=true):=fun j d hj=>HALL.out j d (by have:=(zG.1 hj).1;omega) hj
   obtain rfl:k=atoms.length:=by omega
   clear HALL HAR HAT HB0 HB1 hz2 hlt hk
   generalize hwv:wr=wv at *
   clear hwv
   go_wp2_with fail
   go_loopw [57] (fun i wr=>∃k:Nat,k≤clauses.length∧i = .int .i64 k∧((clauses.take k).all fun c=>c.any (holds bs))=true∧Below wv.heap.size wv wr) (fun i _=>clauses.length-(intOf i).toNat)
   case atStart=>exact ⟨0,by omega,rfl,by simp,zN _ _⟩
   case round =>
    obtain ⟨k,hk,rfl,hall,hbw⟩:=hrel
    have HALL:=Lib.hid hall
    have HBE:=Lib.hid hbw
    have HBC:Hid (Below w.heap.size w wr):=HBB.out.trans (hbw.mono HBB.out.size)
    have HM1:=Lib.hid (HK1.out.keep hbw)
    have r0:=HM1.out.cell 0
    have r1:=HM1.out.cell 1
    simp only [zA,zB,zC] at r0 r1
    clear hall hbw
    by_cases hlt:k<clauses.length
    ·obtain ⟨zs,hzs⟩:∃x,clauses[k]? = some x:=⟨_,List.getElem?_eq_getElem hlt⟩
     obtain ⟨b,off,A1,c1,rfl,hb,hcell,hint⟩:=Mat.at_ HCR.out HC3.out HCI.out hzs
     have hcell:=(HBC.out.cell (p:=⟨b,off+k,none⟩) hb).trans hcell
     have HZI:=Lib.hid (hint.keep HBC.out)
     have HZS:=Lib.hid hzs
     have hb:=zX hb HBC.out.size
     clear hint hzs
     go_wp2_with fail
     refine (rany_any _ _ bs _ zs _ HZI.out (HBO.out.keep HBC.out)).mono ?_
     rintro e w2 ⟨rfl,hb2⟩
     have HB2:=Lib.hid hb2
     clear hb2
     cases hq:zs.any (holds bs) with
     | true =>
      have HQ:=Lib.hid hq
      clear hq
      simp only
      go_wp2_with fail
      refine ⟨⟨k+1,by omega,by go_num,dQ HALL.out HZS.out HQ.out,HBE.out.trans (HB2.out.mono HBE.out.size)⟩,by simp [intOf];omega⟩
     | false =>
      have HQ:=Lib.hid hq
      clear hq
      simp only
      go_wp2_with fail
      go_ret
      refine ⟨⟨_,rfl,?_⟩,HBC.out.trans (HB2.out.mono HBC.out.size)⟩
      refine ⟨fun h=>Bool.noConfusion h,fun h => ?_⟩
      have h1:=h.2 zs (List.mem_of_getElem? HZS.out)
      rw [HQ.out] at h1
      cases h1
    ·have HC:Hid ((clauses.all fun c=>c.any (holds bs))=true):=eZ HALL.out (by omega)
     go_wp2_with fail
     go_ret
     refine ⟨⟨_,rfl,?_⟩,HBC.out⟩
     refine ⟨fun _=>⟨HAT2.out,?_⟩,fun _=>rfl⟩
     have h1:=HC.out
     rw [qI] at h1
     exact h1
theorem rsat_any (v:Value) (f:Form) (hf:IsForm w v f) (hB:Bools w bv bs) (hX:Ints w iv xs) (hv:validF f=0) (h40:∀x∈xs,Forty x) :
  Calls Try.prog 42 #[v, .agg #[bv,iv]] w (SatRet w (Sat f xs bs)):=by
 obtain ⟨av,cv,rfl,hI,hBo,hA,hM⟩:=hf
 obtain ⟨v1,v2,v3,v4,v5,v6,v7,v8⟩:=gT hv
 by_cases g1:(bs.length:Int)=f.bools
 ·by_cases g2:(xs.length:Int)=f.ints
  ·have h:=rsat_body av cv bv iv xs bs w f.atoms f.clauses hA hM hB hX (by omega) (by rw [g2];exact v7) h40 (by omega) (by omega)
   rw [g1,g2] at h
   refine h.mono ?_
   rintro e w' ⟨⟨b,rfl,hb⟩,hbw⟩
   exact ⟨⟨b,rfl,hb.trans ⟨fun h=>⟨g1,g2,h⟩,fun h=>h.2.2⟩⟩,hbw⟩
  ·refine (sU av cv bv iv xs bs w f hA hM hB hX g1 g2).mono ?_
   rintro e w' ⟨rfl,hbw⟩
   exact ⟨⟨false,rfl,⟨fun h=>Bool.noConfusion h,fun h=>absurd h.2.1 g2⟩⟩,hbw⟩
 ·refine (rsat_head1 av cv bv iv xs bs w f hA hM hB hX g1).mono ?_
  rintro e w' ⟨rfl,hbw⟩
  exact ⟨⟨false,rfl,⟨fun h=>Bool.noConfusion h,fun h=>absurd h.1 g1⟩⟩,hbw⟩
end
end Go.Proofs.Yticieifacalocaa
