/- RchkL HoldsR AnyR SatR Right LawSLa -/
import Derived.Test.YticieifacalocaaTSC49
import Derived.Test.YticieifacalocaaTSC48
namespace Go.Proofs.Yticieifacalocaa
open Go.RowKit
set_option maxRecDepth 100000 in
set_option maxHeartbeats 1000000 in
theorem tP (fv lv:Value) (f:Form) (l:List Stp) (w:World) (hf:IsForm w fv f) (hl:Stps w lv l) (hq:eH f l) :
  Calls Try.prog 43 #[fv,lv] w (ChkRet w (chk (gE f [] l) l.length)):=by
 have HF:=Lib.hid hf
 have HQ:=Lib.hid hq
 have HL:=Lib.hid hl
 obtain ⟨av,cv,rfl, -, -,hf3,hf4⟩:=hf
 obtain ⟨Aa,ca,rfl, -, -, -, -⟩:=hf3
 obtain ⟨Ac,cc,vs,rfl, -, -, -, -, -⟩:=hf4
 obtain ⟨A,c,ps,hps,rfl,l1,l2, -, -⟩:=hl
 have hpl:ps.length=l.length:=by rw [hps];simp
 have HPL:=Lib.hid hpl
 unfold maxLen at l2
 have hpn:ps.length≤1099511627776:=by have:=hq.2.2.1;omega
 clear hq hps hpl
 have HB:Hid (Below w.heap.size w (w.alloc (.cells #[.int .i64 f.ints, .int .i64 f.bools, .slice Aa f.atoms.length ca, .slice Ac f.clauses.length cc] 29))):=(zM _ _).alloc (Nat.le_refl _) _
 go_enter Try.func43,Try.ntmps43
 go_wp2_with fail
 refine (oJ _ _ f l _ (HF.out.keep HB.out) (HL.out.keep HB.out) HQ.out).mono ?_
 rintro e w2 hret
 cases hr:gE f [] l with
 | mk cs ok =>
  have HR:=Lib.hid hr
  rw [hr] at hret
  rcases hret with ⟨h1,v,rfl,us,hom,hb⟩|⟨h1,rfl,hb⟩
  ·simp only at h1
   subst h1
   have hcl:cs.length=ps.length:=by have:=runS_len (f:=f) l [] (by rw [hr]);rw [hr] at this;simpa [HPL.out] using this
   have hul:us.length=ps.length:=by rw [hom.2.1];exact hcl
   have HB2:=Lib.hid (HB.out.trans (hb.mono HB.out.size))
   have HM:=Lib.hid hom.mat
   obtain ⟨Ax,cx,hx, -, -,hrd⟩:=wQ hom.1
   subst hx
   have HOM:=Lib.hid hom
   have HRD:=Lib.hid hrd
   have HCL:=Lib.hid hcl
   have HUL:=Lib.hid hul
   clear hr hb hom hrd hcl hul
   by_cases h0:ps.length=0
   ·have d0:((ps.length:Int) == 0)=true:=by simp;exact qK h0
    have HC:Hid (chk (gE f [] l) l.length=((ps.length:Int),15)):=by refine Lib.hid ?_;rw [HR.out,←HPL.out];unfold chk;rw [if_pos rfl,if_pos (.inl h0)]
    clear h0
    go_wp2_with fail
    go_ret2
    exact ⟨by rw [HC.out];rfl,HB2.out⟩
   ·have d0:((ps.length:Int) == 0)=false:=by simp;intro h;exact h0 (by rw [h];rfl)
    obtain ⟨c,hc⟩:∃c,cs[ps.length-1]? = some c:=⟨_,List.getElem?_eq_getElem (by have:=HCL.out;omega)⟩
    obtain ⟨A',c',vs',hv',m1,m2,m3,m4,m5⟩:=HM.out
    injection hv' with e1 e2 e3
    subst e1 e3
    obtain ⟨b,off,A1,c1,rfl,hb,hcell,hI⟩:=Mat.at_ m4 m3 m5 hc
    have HD:Hid (cs.getD (ps.length-1) []=c):=by refine Lib.hid ?_;simp [List.getD,hc]
    have hps0:1≤ps.length:=by omega
    have huI:Hid (us.length=ps.length):=HUL.out
    have hidx:((ps.length:Int)-1).toNat=ps.length-1:=by omega
    have hlt:(ps.length:Int)-1<(us.length:Int):=by have:=HUL.out;omega
    clear m1 m2 m3 m4 m5 hc hI e2
    by_cases hc0:c=[]
    ·subst hc0
     have HC:Hid (chk (gE f [] l) l.length=(0,0)):=by refine Lib.hid ?_;rw [HR.out,←HPL.out];unfold chk;rw [if_pos rfl,if_neg (by rw [HD.out];exact fun h=>h.elim h0 fun h=>h rfl)]
     simp only [yW] at hcell
     clear h0
     go_wp2_with fail
     go_ret2
     exact ⟨by rw [HC.out];rfl,HB2.out⟩
    ·have HC:Hid (chk (gE f [] l) l.length=((ps.length:Int),15)):=by refine Lib.hid ?_;rw [HR.out,←HPL.out];unfold chk;rw [if_pos rfl,if_pos (.inr (by rw [HD.out];exact hc0))]
     have hcl:0<c.length:=uG.2 hc0
     have dc:decide ((0:Int)<(c.length:Int))=true:=by simp;omega
     have dc':decide (0<c.length)=true:=by simp;omega
     clear h0 hc0
     go_wp2_with fail
     go_ret2
     exact ⟨by rw [HC.out];rfl,HB2.out⟩
  ·simp only at h1
   subst h1
   have HB2:=Lib.hid (HB.out.trans (hb.mono HB.out.size))
   have HC:Hid (chk (gE f [] l) l.length=((cs.length:Int),15)):=by refine Lib.hid ?_;rw [HR.out];rfl
   have dn:decide ((0:Int)≤(cs.length:Int))=true:=by simp
   clear hr hb
   go_wp2_with fail
   go_ret2
   exact ⟨by rw [HC.out];rfl,HB2.out⟩
section
variable (bv iv:Value) (bs:List Bool) (w:World)
theorem tD :
  Calls Try.prog 29 #[.int .i64 0, .agg #[bv,iv]] w fun e w'=>e = .returned (.bool false)∧Below w.heap.size w w':=by
 go_enter Try.func29,Try.ntmps29
 go_wp2
 go_ret
 exact ⟨rfl,by go_grown⟩
theorem rholds_pos (n:Nat) (hb:Bools w bv bs) (hl:n+1≤9223372036854775807) :
  Calls Try.prog 29 #[.int .i64 ((n:Int)+1), .agg #[bv,iv]] w fun e w'=>e = .returned (.bool (bs.getD n false))∧Below w.heap.size w w':=by
 obtain ⟨A,c,rfl,h1,h2,hr⟩:=hb
 unfold maxLen at h2
 have hz:(((n:Int)+1) == 0)=false:=by simp;omega
 by_cases hlt:n<bs.length
 ·obtain ⟨x,hx⟩:∃x,bs[n]? = some x:=⟨_,List.getElem?_eq_getElem hlt⟩
  obtain ⟨b1,o1,rfl,hb1,hc1⟩:=hr.bool hx
  have HX:bs.getD n false=x:=by simp [List.getD,hx]
  rw [HX]
  clear hx hr HX
  have h3:decide ((bs.length:Int)<(n:Int)+1)=false:=by simp;omega
  have h4:decide ((n:Int)+1 < -(bs.length:Int))=false:=by simp;omega
  go_enter Try.func29,Try.ntmps29
  go_wp2
  go_ret
  exact ⟨by simp,by go_grown⟩
 ·have HX:bs.getD n false=false:=by simp [List.getD,List.getElem?_eq_none (Nat.le_of_not_lt hlt)]
  rw [HX]
  clear hr HX
  have h3:decide ((bs.length:Int)<(n:Int)+1)=true:=by simp;omega
  go_enter Try.func29,Try.ntmps29
  go_wp2
  go_ret
  exact ⟨by simp,by go_grown⟩
theorem rholds_neg (n:Nat) (hb:Bools w bv bs) (hl:n+1≤9223372036854775808) :
  Calls Try.prog 29 #[.int .i64 (-((n:Int)+1)), .agg #[bv,iv]] w fun e w'=>e = .returned (.bool ((bs[n]?).any (!·)))∧Below w.heap.size w w':=by
 obtain ⟨A,c,rfl,h1,h2,hr⟩:=hb
 unfold maxLen at h2
 have hz:((-((n:Int)+1)) == 0)=false:=by simp;omega
 have h3:decide ((bs.length:Int) < -((n:Int)+1))=false:=by simp;omega
 by_cases hlt:n<bs.length
 ·obtain ⟨x,hx⟩:∃x,bs[n]? = some x:=⟨_,List.getElem?_eq_getElem hlt⟩
  obtain ⟨b1,o1,rfl,hb1,hc1⟩:=hr.bool hx
  rw [hx]
  clear hx hr
  have h4:decide (-((n:Int)+1) < -(bs.length:Int))=false:=by simp;omega
  go_enter Try.func29,Try.ntmps29
  go_wp2
  go_ret
  exact ⟨by simp,by go_grown⟩
 ·have HX:(bs[n]?).any (!·)=false:=by simp [List.getElem?_eq_none (Nat.le_of_not_lt hlt)]
  rw [HX]
  clear hr HX
  have h4:decide (-((n:Int)+1) < -(bs.length:Int))=true:=by simp;omega
  go_enter Try.func29,Try.ntmps29
  go_wp2
  go_ret
  exact ⟨by simp,by go_grown⟩
theorem rholds_any (lit:Int) (hb:Bools w bv bs) (hl:I64 lit) :
  Calls Try.prog 29 #[.int .i64 lit, .agg #[bv,iv]] w fun e w'=>e = .returned (.bool (holds bs lit))∧Below w.heap.size w w':=by
 obtain ⟨hl1,hl2⟩:=hl
 rcases aF lit with rfl|⟨n,rfl⟩|⟨n,rfl⟩
 ·exact tD bv iv w
 ·rw [aD];exact rholds_pos bv iv bs w n hb (by omega)
 ·rw [aB];exact rholds_neg bv iv bs w n hb (by omega)
end
section
variable (bv iv:Value) (bs:List Bool)
set_option maxRecDepth 100000 in
theorem rany_any (v:Value) (zs:List Int) (w:World) (hv:Ints w v zs) (hB:Bools w bv bs) :
  Calls Try.prog 23 #[v, .agg #[bv,iv]] w fun e w'=>e = .returned (.bool (zs.any (holds bs)))∧Below w.heap.size w w':=by
 obtain ⟨A,c,rfl,h1,h2,h3,hr⟩:=hv
 unfold maxLen at h2
 have HX:=Lib.hid h3
 have HR:=Lib.hid hr
 have HBO:=Lib.hid hB
 obtain ⟨A',c',rfl,h1',h2', -⟩:=hB
 clear h3 hr h2'
 go_enter Try.func23,Try.ntmps23
 go_wp2_with fail
 have B0:=Blk.new w 35 #[.slice A' bs.length c',iv]
 generalize hW:w.alloc (.cells #[.slice A' bs.length c',iv] 35)=W at B0 ⊢
 have hbW:Below w.heap.size w W:=by rw [←hW];go_grown
 have HBW:=Lib.hid hbW
 have hszW:w.heap.size<W.heap.size:=by rw [←hW];simp
 have HB0:=Lib.hid B0
 clear hW B0 hbW
 go_loopw [9] (fun i wr=>∃k:Nat,k≤zs.length∧i = .int .i64 k∧(zs.take k).any (holds bs)=false∧Below W.heap.size W wr) (fun i _=>zs.length-(intOf i).toNat)
 case atStart=>exact ⟨0,by omega,rfl,by simp,zM _ _⟩
 case round =>
  obtain ⟨k,hk,rfl,hany,hbw⟩:=hrel
  have HBR:=Lib.hid hbw
  have HAN:=Lib.hid hany
  have B1:=HB0.out.keep hbw
  have q0:=B1.cell 0
  have q1:=B1.cell 1
  simp only [zA,zB,zC] at q0 q1
  have HBB:Hid (Below w.heap.size w wr):=HBW.out.trans (hbw.mono HBW.out.size)
  clear hbw hany B1
  by_cases hlt:k<zs.length
  ·obtain ⟨x,hxk⟩:∃x,zs[k]? = some x:=⟨_,List.getElem?_eq_getElem hlt⟩
   obtain ⟨b1,o1,rfl,hb1,hc1⟩:=(HR.out.keep HBB.out).int hxk
   have HXK:=Lib.hid hxk
   clear hxk
   go_wp2_with fail
   refine (rholds_any _ _ bs _ _ (HBO.out.keep HBB.out) (HX.out x (List.mem_of_getElem? HXK.out))).mono ?_
   rintro e w2 ⟨rfl,hb2⟩
   have HB2:=Lib.hid hb2
   clear hb2
   cases hq:holds bs x with
   | true =>
    have HQ:=Lib.hid hq
    clear hq
    simp only
    go_wp2_with fail
    go_ret
    exact ⟨by rw [any_at HXK.out HQ.out];rfl,HBB.out.trans (HB2.out.mono HBB.out.size)⟩
   | false =>
    have HQ:=Lib.hid hq
    clear hq
    simp only
    go_wp2_with fail
    refine ⟨⟨k+1,by omega,by go_num,oH HAN.out HXK.out HQ.out,HBR.out.trans (HB2.out.mono HBR.out.size)⟩,by simp [intOf];omega⟩
  ·go_wp2_with fail
   go_ret
   exact ⟨by rw [rE HAN.out (by omega)];rfl,HBB.out⟩
end
section
variable (av cv bv iv:Value) (xs:List Int) (bs:List Bool) (w:World)
set_option maxRecDepth 100000 in
theorem rsat_head1 (f:Form) (hA:Diffs w av f.atoms) (hM:Mat w cv f.clauses) (hB:Bools w bv bs) (hX:Ints w iv xs) (g1:(bs.length:Int)≠f.bools) :
  Calls Try.prog 42 #[.agg #[.int .i64 f.ints, .int .i64 f.bools,av,cv], .agg #[bv,iv]] w fun e w'=>e = .returned (.bool false)∧Below w.heap.size w w':=by
 obtain ⟨A,c,rfl, -, -, -, -⟩:=hA
 obtain ⟨A',c',vs,rfl, -, -, -, -, -⟩:=hM
 obtain ⟨A2,c2,rfl, -, -, -⟩:=hB
 obtain ⟨A3,c3,rfl, -, -, -, -⟩:=hX
 obtain ⟨ints,bools,atoms,clauses⟩:=f
 simp only at *
 have d1:((bs.length:Int) != bools)=true:=by simp [g1]
 clear g1
 go_enter Try.func42,Try.ntmps42
 go_wp2_with fail
 go_ret
 exact ⟨rfl,by go_grown⟩
set_option maxRecDepth 100000 in
theorem rsat_head2 (f:Form) (hA:Diffs w av f.atoms) (hM:Mat w cv f.clauses) (hB:Bools w bv bs) (hX:Ints w iv xs) (g1:(bs.length:Int)=f.bools) (g2:(xs.length:Int)≠f.ints) :
  Calls Try.prog 42 #[.agg #[.int .i64 f.ints, .int .i64 f.bools,av,cv], .agg #[bv,iv]] w fun e w'=>e = .returned (.bool false)∧Below w.heap.size w w':=by
 obtain ⟨A,c,rfl, -, -, -, -⟩:=hA
 obtain ⟨A',c',vs,rfl, -, -, -, -, -⟩:=hM
 obtain ⟨A2,c2,rfl, -, -, -⟩:=hB
 obtain ⟨A3,c3,rfl, -, -, -, -⟩:=hX
 obtain ⟨ints,bools,atoms,clauses⟩:=f
 simp only at *
 subst g1
 have d2:((xs.length:Int) != ints)=true:=by simp [g2]
 clear g2
 go_enter Try.func42,Try.ntmps42
 go_wp2_with fail
 go_ret
 exact ⟨rfl,by go_grown⟩
set_option maxRecDepth 100000 in
set_option maxHeartbeats 4000000 in
theorem rsat_body (atoms:List Diff) (clauses:List (List Int)) (hA:Diffs w av atoms) (hM:Mat w cv clauses) (hB:Bools w bv bs) (hX:Ints w iv xs)
  (g1:atoms.length≤bs.length) (hat:∀d∈atoms,bU xs.length d=true) (h40:∀x∈xs,Forty x) (g2:bs.length≤1024) (g4:clauses.length≤32768) :
  Calls Try.prog 42 #[.agg #[.int .i64 xs.length, .int .i64 bs.length,av,cv], .agg #[bv,iv]] w (SatRet w (SatB atoms clauses xs bs)):=by
 have HBO:=Lib.hid hB
 have HIX:=Lib.hid hX
 have HAT:=Lib.hid hat
 have H40:=Lib.hid h40
 obtain ⟨A,c,rfl, -, -, -,har⟩:=hA
 obtain ⟨A',c',vs,rfl, -, -,hc3,hcr,hci⟩:=hM
 obtain ⟨A2,c2,rfl, -, -,hbr⟩:=hB
 obtain ⟨A3,c3,rfl, -, -, -,hxr⟩:=hX
 have HCR:=Lib.hid hcr
 have HCI:=Lib.hid hci
 have HC3:=Lib.hid hc3
 have HAR:=Lib.hid har
 have HBR:=Lib.hid hbr
 have HXR:=Lib.hid hxr
 clear har hcr hci hc3 hbr hxr hat h40
 have d6:decide (bs.length<atoms.length)=false:=by simp;omega
 go_enter Try.func42,Try.ntmps42
 go_wp2_with fail
 have B0:=(Blk.new w 29 #[.int .i64 xs.length, .int .i64 bs.length, .slice A atoms.length c, .slice A' clauses.length c']).alloc (.cells #[.slice A2 bs.length c2, .slice A3 xs.length c3] 35)
 have B1:=Blk.new (w.alloc (.cells #[.int .i64 xs.length, .int .i64 bs.length, .slice A atoms.length c, .slice A' clauses.length c'] 29)) 35 #[.slice A2 bs.length c2, .slice A3 xs.length c3]
 simp only [xD] at B1
 generalize hW:(w.alloc (.cells #[.int .i64 xs.length, .int .i64 bs.length, .slice A atoms.length c, .slice A' clauses.length c'] 29)).alloc (.cells #[.slice A2 bs.length c2, .slice A3 xs.length c3] 35)=W at B0 B1 ⊢
 have hbW:Below w.heap.size w W:=by rw [←hW];go_grown
 have hszW:W.heap.size=w.heap.size+2:=by rw [←hW];simp
 have HBW:=Lib.hid hbW
 have HSW:=Lib.hid hszW
 have HB0:=Lib.hid B0
 have HB1:=Lib.hid B1
 clear hW B0 B1 hbW hszW
 go_loopw [26] (fun i wr=>∃k:Nat,k≤atoms.length∧i = .int .i64 k∧(∀(j:Nat) (d:Diff),j<k→atoms[j]? = some d→atomOk xs bs j d=true)∧Below W.heap.size W wr) (fun i _=>atoms.length-(intOf i).toNat)
 case atStart=>exact ⟨0,by omega,rfl,fun j d hj=>absurd hj (by omega),zM _ _⟩
 case round =>
  obtain ⟨k,hk,rfl,hall,hbw⟩:=hrel
  have HALL:=Lib.hid hall
  have HBQ:=Lib.hid hbw
  have HBB:Hid (Below w.heap.size w wr):=HBW.out.trans (hbw.mono HBW.out.size)
  have HK0:=Lib.hid (HB0.out.keep hbw)
  have HK1:=Lib.hid (HB1.out.keep hbw)
  have q0:=HK0.out.cell 0
  have q1:=HK0.out.cell 1
  have q2:=HK0.out.cell 2
  have q3:=HK0.out.cell 3
  have r0:=HK1.out.cell 0
  have r1:=HK1.out.cell 1
  simp only [zA,zB,zC] at q0 q1 q2 q3 r0 r1
  have hz:w.heap.size+1<wr.heap.size:=by have:=hbw.size;have:=HSW.out;omega
  have hz0:w.heap.size<wr.heap.size:=by omega
  have hz2:W.heap.size≤wr.heap.size:=hbw.size
  clear hall hbw
  by_cases hlt:k<atoms.length
  ·obtain ⟨d,hd⟩:∃d,atoms[k]? = some d:=⟨_,List.getElem?_eq_getElem hlt⟩
   have hok:=HAT.out d (List.mem_of_getElem? hd)
   obtain ⟨b1,o1,rfl,hb1,hc1,hc2,hc3⟩:=(HAR.out.keep HBB.out).diff hd
   obtain ⟨x,y,z⟩:=d
   have HD:=Lib.hid hd
   clear hd
   simp only at hc1 hc2 hc3
   obtain ⟨k1,k2,k3,k4,k5,k6,k7⟩:=dT.1 hok
   clear hok k5
   obtain ⟨m,rfl⟩:∃m:Nat,x=m:=⟨x.toNat,by omega⟩
   obtain ⟨n,rfl⟩:∃n:Nat,y=n:=⟨y.toNat,by omega⟩
   obtain ⟨a,ha⟩:∃a,xs[m]? = some a:=⟨_,List.getElem?_eq_getElem (by omega)⟩
   obtain ⟨b,hb⟩:∃b,xs[n]? = some b:=⟨_,List.getElem?_eq_getElem (by omega)⟩
   obtain ⟨t,ht⟩:∃t,bs[k]? = some t:=⟨_,List.getElem?_eq_getElem (by omega)⟩
   obtain ⟨b2,o2,rfl,hb2,hca⟩:=(HXR.out.keep HBB.out).int ha
   obtain ⟨b3,o3,hb3e,hb3,hcb⟩:=(HXR.out.keep HBB.out).int hb
   injection hb3e with hb3e
   injection hb3e with e1 e2 _
   subst e1 e2
   obtain ⟨b4,o4,rfl,hb4,hct⟩:=(HBR.out.keep HBB.out).bool ht
   obtain ⟨ha1,ha2⟩:=H40.out a (List.mem_of_getElem? ha)
   obtain ⟨hb1',hb2'⟩:=H40.out b (List.mem_of_getElem? hb)
   have HOK:Hid (atomOk xs bs k ⟨m,n,z⟩=(t == decide (a-b≤z))):=by
    show atomOk xs bs k ⟨m,n,z⟩=(t == decide (a-b≤z))
    simp only [atomOk,Int.toNat_natCast,rS ha,rS hb,rS ht]
   clear ha hb ht
   have y1:IntKind.i64.wrap (a-b)=a-b:=qI _ (by omega)
   have y2:((m:Int)).toNat=m:=by omega
   have y3:((n:Int)).toNat=n:=by omega
   generalize hdz:decide (a-b≤z)=dz at HOK
   go_wp2_with fail
   have BD:=Blk.new wr 50 #[.int .i64 m, .int .i64 n, .int .i64 z]
   generalize hW2:wr.alloc (.cells #[.int .i64 m, .int .i64 n, .int .i64 z] 50)=W2 at BD ⊢
   have hbW2:Below wr.heap.size wr W2:=by rw [←hW2];go_grown
   have p0:=BD.cell 0
   have p1:=BD.cell 1
   have p2:=BD.cell 2
   simp only [zA,zB,zC] at p0 p1 p2
   have r0:=(hbW2.cell (p:=⟨w.heap.size+1,0,none⟩) hz).trans r0
   have r1:=(hbW2.cell (p:=⟨w.heap.size+1,1,none⟩) hz).trans r1
   have hca:=(hbW2.cell (p:=⟨b2,o2+m,none⟩) hb2).trans hca
   have hcb:=(hbW2.cell (p:=⟨b2,o2+n,none⟩) hb3).trans hcb
   have hct:=(hbW2.cell (p:=⟨b4,o4+k,none⟩) hb4).trans hct
   have HBW2:=Lib.hid hbW2
   clear hW2 hbW2 BD
   cases t<;>cases dz
   ·go_quiet (fail)
    go_wp2_with fail
    have HNX:Hid (∀(j:Nat) (d:Diff),j<k+1→atoms[j]? = some d→atomOk xs bs j d=true):=by
     intro j d hj hjd
     by_cases e:j=k
     ·subst e
      rw [HD.out] at hjd
      injection hjd with hjd
      subst hjd
      rw [HOK.out]
      rfl
     ·exact HALL.out j d (by omega) hjd
    go_roundw
    case rel=>exact ⟨k+1,by omega,by go_num,HNX.out,cW (HBQ.out.trans (HBW2.out.mono HBQ.out.size)) _⟩
    case measure=>simp [intOf];omega
   ·go_quiet (fail)
    go_wp2_with fail
    go_ret
    refine ⟨⟨_,rfl,?_⟩,cW (HBB.out.trans (HBW2.out.mono HBB.out.size)) _⟩
    refine ⟨fun h=>Bool.noConfusion h,fun h => ?_⟩
    have h1:=h.1 k _ HD.out
    rw [HOK.out] at h1
    cases h1
   ·go_quiet (fail)
    go_wp2_with fail
    go_ret
    refine ⟨⟨_,rfl,?_⟩,cW (HBB.out.trans (HBW2.out.mono HBB.out.size)) _⟩
    refine ⟨fun h=>Bool.noConfusion h,fun h => ?_⟩
    have h1:=h.1 k _ HD.out
    rw [HOK.out] at h1
    cases h1
   ·go_quiet (fail)
    go_wp2_with fail
    have HNX:Hid (∀(j:Nat) (d:Diff),j<k+1→atoms[j]? = some d→atomOk xs bs j d=true):=by
     intro j d hj hjd
     by_cases e:j=k
     ·subst e
      rw [HD.out] at hjd
      injection hjd with hjd
      subst hjd
      rw [HOK.out]
      rfl
     ·exact HALL.out j d (by omega) hjd
    go_roundw
    case rel=>exact ⟨k+1,by omega,by go_num,HNX.out,cW (HBQ.out.trans (HBW2.out.mono HBQ.out.size)) _⟩
    case measure=>simp [intOf];omega
  ·have HAT2:Hid (∀(j:Nat) (d:Diff),atoms[j]? = some d→atomOk xs bs j d=true):=fun j d hj=>HALL.out j d (by have:=(zG.1 hj).1;omega) hj
   obtain rfl:k=atoms.length:=by omega
   clear HALL HAR HAT HB0 HB1 hz2 hlt hk
   generalize hwv:wr=wv at *
   clear hwv
   go_wp2_with fail
   go_loopw [57] (fun i wr=>∃k:Nat,k≤clauses.length∧i = .int .i64 k∧((clauses.take k).all fun c=>c.any (holds bs))=true∧Below wv.heap.size wv wr) (fun i _=>clauses.length-(intOf i).toNat)
   case atStart=>exact ⟨0,by omega,rfl,by simp,zM _ _⟩
   case round =>
    obtain ⟨k,hk,rfl,hall,hbw⟩:=hrel
    have HALL:=Lib.hid hall
    have HBE:=Lib.hid hbw
    have HBC:Hid (Below w.heap.size w wr):=HBB.out.trans (hbw.mono HBB.out.size)
    have HM1:=Lib.hid (HK1.out.keep hbw)
    have r0:=HM1.out.cell 0
    have r1:=HM1.out.cell 1
    simp only [zA,zB,zC] at r0 r1
    clear hall hbw
    by_cases hlt:k<clauses.length
    ·obtain ⟨zs,hzs⟩:∃x,clauses[k]? = some x:=⟨_,List.getElem?_eq_getElem hlt⟩
     obtain ⟨b,off,A1,c1,rfl,hb,hcell,hint⟩:=Mat.at_ HCR.out HC3.out HCI.out hzs
     have hcell:=(HBC.out.cell (p:=⟨b,off+k,none⟩) hb).trans hcell
     have HZI:=Lib.hid (hint.keep HBC.out)
     have HZS:=Lib.hid hzs
     have hb:=qD hb HBC.out.size
     clear hint hzs
     go_wp2_with fail
     refine (rany_any _ _ bs _ zs _ HZI.out (HBO.out.keep HBC.out)).mono ?_
     rintro e w2 ⟨rfl,hb2⟩
     have HB2:=Lib.hid hb2
     clear hb2
     cases hq:zs.any (holds bs) with
     | true =>
      have HQ:=Lib.hid hq
      clear hq
      simp only
      go_wp2_with fail
      refine ⟨⟨k+1,by omega,by go_num,bN HALL.out HZS.out HQ.out,HBE.out.trans (HB2.out.mono HBE.out.size)⟩,by simp [intOf];omega⟩
     | false =>
      have HQ:=Lib.hid hq
      clear hq
      simp only
      go_wp2_with fail
      go_ret
      refine ⟨⟨_,rfl,?_⟩,HBC.out.trans (HB2.out.mono HBC.out.size)⟩
      refine ⟨fun h=>Bool.noConfusion h,fun h => ?_⟩
      have h1:=h.2 zs (List.mem_of_getElem? HZS.out)
      rw [HQ.out] at h1
      cases h1
    ·have HC:Hid ((clauses.all fun c=>c.any (holds bs))=true):=iN HALL.out (by omega)
     go_wp2_with fail
     go_ret
     refine ⟨⟨_,rfl,?_⟩,HBC.out⟩
     refine ⟨fun _=>⟨HAT2.out,?_⟩,fun _=>rfl⟩
     have h1:=HC.out
     rw [qM] at h1
     exact h1
theorem rsat_any (v:Value) (f:Form) (hf:IsForm w v f) (hB:Bools w bv bs) (hX:Ints w iv xs) (hv:validF f=0) (h40:∀x∈xs,Forty x) :
  Calls Try.prog 42 #[v, .agg #[bv,iv]] w (SatRet w (Sat f xs bs)):=by
 obtain ⟨av,cv,rfl,hI,hBo,hA,hM⟩:=hf
 obtain ⟨v1,v2,v3,v4,v5,v6,v7,v8⟩:=gY hv
 by_cases g1:(bs.length:Int)=f.bools
 ·by_cases g2:(xs.length:Int)=f.ints
  ·have h:=rsat_body av cv bv iv xs bs w f.atoms f.clauses hA hM hB hX (by omega) (by rw [g2];exact v7) h40 (by omega) (by omega)
   rw [g1,g2] at h
   refine h.mono ?_
   rintro e w' ⟨⟨b,rfl,hb⟩,hbw⟩
   exact ⟨⟨b,rfl,hb.trans ⟨fun h=>⟨g1,g2,h⟩,fun h=>h.2.2⟩⟩,hbw⟩
  ·refine (rsat_head2 av cv bv iv xs bs w f hA hM hB hX g1 g2).mono ?_
   rintro e w' ⟨rfl,hbw⟩
   exact ⟨⟨false,rfl,⟨fun h=>Bool.noConfusion h,fun h=>absurd h.2.1 g2⟩⟩,hbw⟩
 ·refine (rsat_head1 av cv bv iv xs bs w f hA hM hB hX g1).mono ?_
  rintro e w' ⟨rfl,hbw⟩
  exact ⟨⟨false,rfl,⟨fun h=>Bool.noConfusion h,fun h=>absurd h.1 g1⟩⟩,hbw⟩
end
set_option maxRecDepth 100000 in
set_option maxHeartbeats 4000000 in
theorem right_sat {f:Form} {fv bv iv:Value} {bs:List Bool} {xs:List Int} {w:World} (hf:IsForm w fv f) (hB:Bools w bv bs) (hX:Ints w iv xs) (hv:validF f=0) (h40:∀x∈xs,Forty x) (hs:Sat f xs bs) :
  Calls Try.prog 18 #[fv, .agg #[bv,iv], .slice none 0 0, .bool true] w fun e w'=>e = .returned (.bool true)∧Below w.heap.size w w':=by
 have HF:=Lib.hid hf
 have HBS:=Lib.hid hB
 have HXS:=Lib.hid hX
 have HV:=Lib.hid hv
 have H40:=Lib.hid h40
 have HS:=Lib.hid hs
 obtain ⟨av,cv,rfl, -, -, -, -⟩:=hf
 clear hB hX hv h40 hs
 have b1:=Blk.new w 29 #[.int .i64 f.ints, .int .i64 f.bools,av,cv]
 have b2:=Blk.new (w.alloc (.cells #[.int .i64 f.ints, .int .i64 f.bools,av,cv] 29)) 35 #[bv,iv]
 simp only [xD] at b2
 have HB1:=Lib.hid (b1.alloc (.cells #[bv,iv] 35))
 have HB2:=Lib.hid b2
 have HB:Hid (Below w.heap.size w ((w.alloc (.cells #[.int .i64 f.ints, .int .i64 f.bools,av,cv] 29)).alloc (.cells #[bv,iv] 35))):=Lib.hid (((zM _ _).alloc (Nat.le_refl _) _).alloc (by simp) _)
 clear b1 b2
 go_enter Try.func18,Try.ntmps18
 go_upto_region 1 with fail
 generalize ((w.alloc (.cells #[.int .i64 f.ints, .int .i64 f.bools,av,cv] 29)).alloc (.cells #[bv,iv] 35))=W at *
 have q0:=HB1.out.cell 0
 have q1:=HB1.out.cell 1
 have q2:=HB1.out.cell 2
 have q3:=HB1.out.cell 3
 have p0:=HB2.out.cell 0
 have p1:=HB2.out.cell 1
 simp only [zA,zB,zC] at q0 q1 q2 q3 p0 p1
 go_wp2_with fail
 refine (rsat_any _ _ _ _ _ _ f (HF.out.keep HB.out) (HBS.out.keep HB.out) (HXS.out.keep HB.out) HV.out H40.out).mono ?_
 rintro e w2 ⟨⟨b,rfl,hb⟩,hbw⟩
 obtain rfl:=hb.2 HS.out
 have HB3:=Lib.hid (HB.out.trans (hbw.mono HB.out.size))
 clear hb hbw q0 q1 q2 q3 p0 p1
 go_wp2_with fail
 go_ret
 exact ⟨rfl,HB3.out⟩
set_option maxRecDepth 100000 in
set_option maxHeartbeats 4000000 in
theorem right_ref {f:Form} {fv lv:Value} {l:List Stp} {w:World} (hf:IsForm w fv f) (hl:Stps w lv l) (hq:eH f l) (hc:chk (gE f [] l) l.length=(0,0)) :
  Calls Try.prog 18 #[fv, .agg #[.slice none 0 0, .slice none 0 0],lv, .bool false] w fun e w'=>e = .returned (.bool true)∧Below w.heap.size w w':=by
 have HF:=Lib.hid hf
 have HL:=Lib.hid hl
 have HQ:=Lib.hid hq
 have HC:=Lib.hid hc
 obtain ⟨av,cv,rfl, -, -, -, -⟩:=hf
 clear hl hq hc
 have b1:=Blk.new w 29 #[.int .i64 f.ints, .int .i64 f.bools,av,cv]
 have b2:=Blk.new (w.alloc (.cells #[.int .i64 f.ints, .int .i64 f.bools,av,cv] 29)) 35 #[.slice none 0 0, .slice none 0 0]
 simp only [xD] at b2
 have HB1:=Lib.hid (b1.alloc (.cells #[.slice none 0 0, .slice none 0 0] 35))
 have HB2:=Lib.hid b2
 have HB:Hid (Below w.heap.size w ((w.alloc (.cells #[.int .i64 f.ints, .int .i64 f.bools,av,cv] 29)).alloc (.cells #[.slice none 0 0, .slice none 0 0] 35))):=Lib.hid (((zM _ _).alloc (Nat.le_refl _) _).alloc (by simp) _)
 clear b1 b2
 go_enter Try.func18,Try.ntmps18
 go_upto_region 1 with fail
 generalize ((w.alloc (.cells #[.int .i64 f.ints, .int .i64 f.bools,av,cv] 29)).alloc (.cells #[.slice none 0 0, .slice none 0 0] 35))=W at *
 have q0:=HB1.out.cell 0
 have q1:=HB1.out.cell 1
 have q2:=HB1.out.cell 2
 have q3:=HB1.out.cell 3
 simp only [zA,zB,zC] at q0 q1 q2 q3
 go_wp2_with fail
 refine (tP _ _ f l _ (HF.out.keep HB.out) (HL.out.keep HB.out) HQ.out).mono ?_
 rintro e w2 ⟨rfl,hbw⟩
 rw [HC.out]
 have HB3:=Lib.hid (HB.out.trans (hbw.mono HB.out.size))
 have hbk:=HB2.out.keep hbw
 have p0:=hbk.cell 0
 have p1:=hbk.cell 1
 simp only [zA,zB,zC] at p0 p1
 clear hbw q0 q1 q2 q3 hbk
 go_wp2_with fail
 go_ret
 exact ⟨rfl,HB3.out⟩
def SlvVal (w:World) (f:Form):List Int ⊕ List Stp→Value→Value→Value→Prop
 | .inl val,m0,m1,lv=>lv = .slice none 0 0∧∃xs,Bools w m0 (val.map fun y=>decide (0<y))∧Ints w m1 xs∧Sat f xs (val.map fun y=>decide (0<y))∧∀x∈xs,Forty x
 | .inr l,m0,m1,lv=>m0 = .slice none 0 0∧m1 = .slice none 0 0∧Stps w lv l∧eH f l∧chk (gE f [] l) l.length=(0,0)
theorem SlvVal.keep {w w':World} {f:Form} {o:List Int ⊕ List Stp} {m0 m1 lv:Value} (h:SlvVal w f o m0 m1 lv) (hb:Below w.heap.size w w'):SlvVal w' f o m0 m1 lv:=by
 cases o with
 | inl val=>obtain ⟨h1,xs,h2,h3,h4⟩:=h;exact ⟨h1,xs,h2.keep hb,h3.keep hb,h4⟩
 | inr l=>obtain ⟨h1,h2,h3,h4⟩:=h;exact ⟨h1,h2,h3.keep hb,h4⟩
theorem SlvVal.shape {w:World} {f:Form} {o:List Int ⊕ List Stp} {m0 m1 lv:Value} (h:SlvVal w f o m0 m1 lv):∃A n c A' n' c',m0 = .slice A n c∧m1 = .slice A' n' c':=by
 cases o with
 | inl val=>obtain ⟨h1,xs,⟨A,c,h2, -⟩,⟨A',c',h3, -⟩,h4⟩:=h;exact ⟨_,_,_,_,_,_,h2,h3⟩
 | inr l=>obtain ⟨h1,h2,h3,h4⟩:=h;exact ⟨_,_,_,_,_,_,h1,h2⟩
theorem right_any {f:Form} {o:List Int ⊕ List Stp} {fv m0 m1 lv:Value} {w:World} (hf:IsForm w fv f) (hv:validF f=0) (h:SlvVal w f o m0 m1 lv) :
  Calls Try.prog 18 #[fv, .agg #[m0,m1],lv, .bool o.isLeft] w fun e w'=>e = .returned (.bool true)∧Below w.heap.size w w':=by
 cases o with
 | inl val=>obtain ⟨rfl,xs,h2,h3,h4,h5⟩:=h;exact right_sat hf h2 h3 hv h5 h4
 | inr l=>obtain ⟨rfl,rfl,h3,h4,h5⟩:=h;exact right_ref hf h3 h4 h5
theorem bools_lit {w:World} {g:Nat} {xs:List Bool} (hb:Blk w g 4 (xs.map Value.bool).toArray) (hl:xs.length≤maxLen):Bools w (.slice (some ⟨g,0,none⟩) xs.length xs.length) xs:=by
 refine ⟨_,_,rfl,Nat.le_refl _,hl,fun _=>⟨g,0,rfl,hb.lt,fun j u hu => ?_⟩⟩
 rw [hb.cell,Nat.zero_add]
 simpa using hu
theorem bS {f:Form} {B:Nat} (hv:validF f=0) (hb:f.bools=(B:Int)) (hB:B≤24) (hcl:∀c∈f.clauses,c.length≤200000):∀w fv,IsForm w fv f →
  ∃o,SlvGood f B o∧Calls Try.prog 17 #[fv] w fun e w'=>∃m0 m1 lv,e = .returned (.tuple #[.agg #[m0,m1],lv, .bool o.isLeft])∧SlvVal w' f o m0 m1 lv∧Below w.heap.size w w':=by
 intro w fv hf
 obtain ⟨N,hN⟩:∃N:Nat,f.ints=N:=⟨f.ints.toNat,by have:=(gY hv).2.1;omega⟩
 have hq:=rH hv hb hN
 obtain ⟨o,hg,hc⟩:=eI hf hq hB hv (fun c h=>by have:=hcl c h;omega)
 refine ⟨o,hg,hc.mono fun e w' h => ?_⟩
 cases o with
 | inl val =>
  obtain ⟨bb,gx,xs,rfl,h1,h2,h3,h4,h5,h6,h7,h8⟩:=h
  have hm:ModelOk f B val:=hg
  have hfit:=hm.fits hq h6
  have hbl:(val.map fun y=>decide (0<y)).length=B:=by rw [List.length_map,hm.len]
  have hN3:N≤32:=by have:=(gY hv).1;omega
  have i1:=cJ (xs:=xs) h2 (zM _ _) (fun x hx=>by have:=h7 x hx;constructor<;>omega) (by unfold maxLen;omega)
  have i2:=bools_lit (xs:=val.map fun y=>decide (0<y)) h1 (by rw [hbl];unfold maxLen;omega)
  rw [h5] at i1
  rw [hbl] at i2
  refine ⟨_,_,_,rfl,⟨rfl,xs,i2,i1,⟨by rw [hbl,hb],by rw [h5,hN],fun j d hd => ?_,hm.clauses⟩,fun x hx=>by have:=h7 x hx;constructor<;>omega⟩,h8⟩
  have hj:=hfit j d hd
  unfold atomOk
  rw [List.getD_eq_getElem?_getD,hj]
  unfold gi
  simp
 | inr l =>
  obtain ⟨v,rfl,h1,h2⟩:=h
  have hr:RefOk f l:=hg
  have hL:LIM=1099511627776:=rfl
  refine ⟨_,_,_,rfl,⟨rfl,rfl,h1,⟨hv,hcl,by have:=hr.len;omega,fun s hs=>by have:=(hr.st s hs).2.2.2.2.1;omega⟩,?_⟩,h2⟩
  obtain ⟨cs,r1,r2,r3⟩:=hr.r
  unfold chk
  rw [r1,if_pos rfl,if_neg]
  rintro (h|h)
  ·omega
  ·exact h r3
theorem SmallF.four {a b c:Int} {f:Form} (h:SmallF a b c f):∀xs∈f.clauses,xs.length≤200000:=fun xs hx=>by
 have:=(h.2.2.2.2.2 xs hx).2.1
 omega
theorem SmallF.nb {a b c:Int} {f:Form} (h:SmallF a b c f):∃B:Nat,f.bools=B∧1≤B∧B≤18:=by
 obtain ⟨-,h2,h3, -⟩:=h
 exact ⟨f.bools.toNat,by omega,by omega,by omega⟩
set_option maxRecDepth 100000 in
set_option maxHeartbeats 4000000 in
theorem lawSLa (pv:Value) (a b c:Int) (L:List Int) (w:World) (hp:fL w pv a b c L) :
  Calls Try.prog 4 #[pv] w fun e w'=>e = .returned (.bool true)∧Below w.heap.size w w':=by
 have HP:=Lib.hid hp
 obtain ⟨nv,rfl, -, -, -,hL⟩:=hp
 obtain ⟨An,cn,rfl, -, -, -, -⟩:=hL
 have HB:Hid (Below w.heap.size w (w.alloc (.cells #[.int .u8 a, .int .u8 b, .int .u8 c, .slice An L.length cn] 25))):=Lib.hid ((zM _ _).alloc (Nat.le_refl _) _)
 go_enter Try.func4,Try.ntmps4
 go_wp2_with fail
 generalize w.alloc (.cells #[.int .u8 a, .int .u8 b, .int .u8 c, .slice An L.length cn] 25)=W at *
 refine (lS _ a b c L _ ?hp).mono ?_
 case hp=>obtain ⟨nv,e1,e2⟩:=HP.out;exact ⟨_,rfl,e2.1,e2.2.1,e2.2.2.1,by injection e1 with e1;simp only [uI,uB,wL,wO] at e1;rw [e1];exact e2.2.2.2.keep HB.out⟩
 rintro e w2 ⟨fv,f,rfl,hf,hsm,hb2⟩
 obtain ⟨B,hB,hB1,hB2⟩:=hsm.nb
 have HB2:=Lib.hid (HB.out.trans (hb2.mono HB.out.size))
 have HF2:=Lib.hid hf
 have HSM:=Lib.hid hsm
 obtain ⟨av,cv,rfl, -, -,hf3,hf4⟩:=hf
 obtain ⟨Aa,ca,rfl, -, -, -, -⟩:=hf3
 obtain ⟨Ac,cc,vs,rfl, -, -, -, -, -⟩:=hf4
 clear hb2 hsm HB HP
 have HBK:=Lib.hid (Blk.new w2 29 #[.int .i64 f.ints, .int .i64 (B:Int), .slice Aa f.atoms.length ca, .slice Ac f.clauses.length cc])
 have hb3:Below w2.heap.size w2 (w2.alloc (.cells #[.int .i64 f.ints, .int .i64 (B:Int), .slice Aa f.atoms.length ca, .slice Ac f.clauses.length cc] 29)):=(zM _ _).alloc (Nat.le_refl _) _
 have HF3:=Lib.hid (HF2.out.keep hb3)
 have HB3:=Lib.hid (HB2.out.trans (hb3.mono HB2.out.size))
 rw [hB] at HF3
 clear hb3 HF2 HB2
 go_upto_region 2 with fail
 generalize w2.alloc (.cells #[.int .i64 f.ints, .int .i64 (B:Int), .slice Aa f.atoms.length ca, .slice Ac f.clauses.length cc] 29)=w3 at *
 generalize w2.heap.size=bk at *
 have q0:=HBK.out.cell 0
 have q1:=HBK.out.cell 1
 have q2:=HBK.out.cell 2
 have q3:=HBK.out.cell 3
 simp only [zA,zB,zC] at q0 q1 q2 q3
 obtain ⟨o, -,hc⟩:=bS (SmallF.valid HSM.out) hB (by omega) (SmallF.four HSM.out) w3 _ HF3.out
 have HC:=Lib.hid hc
 clear hc
 go_wp2_with fail
 refine HC.out.mono ?_
 rintro e w4 ⟨m0,m1,lv,rfl,hv4,hb4⟩
 obtain ⟨Am,nm,cm,Ax,nx,cx,rfl,rfl⟩:=hv4.shape
 have hb5:Below w4.heap.size w4 (w4.alloc (.cells #[.slice Am nm cm, .slice Ax nx cx] 35)):=(zM _ _).alloc (Nat.le_refl _) _
 have HMK:=Lib.hid (Blk.new w4 35 #[.slice Am nm cm, .slice Ax nx cx])
 have HV5:=Lib.hid (hv4.keep hb5)
 have HF5:=Lib.hid ((HF3.out.keep hb4).keep hb5)
 have HBK5:=Lib.hid ((HBK.out.keep hb4).keep hb5)
 have HB4:=Lib.hid (HB3.out.trans (hb4.mono HB3.out.size))
 have HB5:=Lib.hid (HB4.out.trans (hb5.mono HB4.out.size))
 clear hv4 hb4 hb5 HB4 HB3 HBK HF3 HC q0 q1 q2 q3
 go_upto_region 3 with fail
 generalize w4.alloc (.cells #[.slice Am nm cm, .slice Ax nx cx] 35)=w5 at *
 generalize w4.heap.size=mk at *
 have q0:=HBK5.out.cell 0
 have q1:=HBK5.out.cell 1
 have q2:=HBK5.out.cell 2
 have q3:=HBK5.out.cell 3
 have p0:=HMK.out.cell 0
 have p1:=HMK.out.cell 1
 simp only [zA,zB,zC] at q0 q1 q2 q3 p0 p1
 go_wp2_with fail
 refine (right_any HF5.out (SmallF.valid HSM.out) HV5.out).mono ?_
 rintro e w6 ⟨rfl,hb6⟩
 have HB6:=Lib.hid (HB5.out.trans (hb6.mono HB5.out.size))
 clear hb6 q0 q1 q2 q3 p0 p1
 go_wp2_with fail
 refine (eW _).mono ?_
 rintro e w8 ⟨rfl,hb8⟩
 have HB8:=Lib.hid (HB6.out.trans (hb8.mono HB6.out.size))
 clear hb8
 go_wp2_with fail
 go_ret
 exact ⟨rfl,HB8.out⟩
end Go.Proofs.Yticieifacalocaa
