/- Valid -/
import Derived.Test.YticieifacalocaaTSH6
namespace Go.Proofs.Yticieifacalocaa
open Go.RowKit
section
variable (av cv:Value) (f:Form) (w:World)
set_option maxRecDepth 100000 in
set_option maxHeartbeats 2000000 in
theorem pY (hA:Diffs w av f.atoms) (hM:Mat w cv f.clauses)
  (g1:f.ints≤32) (g2:f.bools≤1024) (g3:(f.clauses.length:Int)≤32768) (g4:0≤f.ints) (g5:0≤f.bools) (g6:(f.atoms.length:Int)≤f.bools) :
  Calls Try.prog 35 #[.agg #[.int .i64 f.ints, .int .i64 f.bools,av,cv]] w fun e w'=>e = .returned (.int .i64 (okNo (bodyOk f)))∧Below w.heap.size w w':=by
 obtain ⟨A,c,rfl,ha1,ha2,ha3,har⟩:=hA
 obtain ⟨A',c',vs,rfl,hc1,hc2,hc3,hcr,hci⟩:=hM
 have HCR:=Lib.hid hcr
 have HCI:=Lib.hid hci
 have HC3:=Lib.hid hc3
 have HAR:=Lib.hid har
 clear ha2 hc2 ha3 har hcr hci hc3
 obtain ⟨ints,bools,atoms,clauses⟩:=f
 simp only at *
 have d1:decide (32<ints)=false:=by simp;omega
 have d2:decide (1024<bools)=false:=by simp;omega
 have d3:decide (32768<(clauses.length:Int))=false:=by simp;omega
 have d4:decide (ints<0)=false:=by simp;omega
 have d5:decide (bools<0)=false:=by simp;omega
 have d6:decide (bools<(atoms.length:Int))=false:=by simp;omega
 go_enter Try.func35,Try.ntmps35
 go_wp2
 have B0:=Blk.new w 29 #[.int .i64 ints, .int .i64 bools, .slice A atoms.length c, .slice A' clauses.length c']
 generalize hW:w.alloc (.cells #[.int .i64 ints, .int .i64 bools, .slice A atoms.length c, .slice A' clauses.length c'] 29)=W at B0 ⊢
 have hsz:W.heap.size=w.heap.size+1:=by rw [←hW];simp
 have hbW:Below w.heap.size w W:=by rw [←hW];go_grown
 have HS:=Lib.hid hsz
 have HB0:=Lib.hid B0
 clear hW hsz B0
 go_loopw [42] (fun i wr=>∃k:Nat,k≤atoms.length∧i = .int .i64 k∧(atoms.take k).all (dV ints)=true∧Below (w.heap.size+1) W wr) (fun i _=>atoms.length-(intOf i).toNat)
 case atStart=>exact ⟨0,by omega,rfl,by simp,zR _ _⟩
 case round =>
  obtain ⟨k,hk,rfl,hall,hbw⟩:=hrel
  have HALL:=Lib.hid hall
  have B1:=HB0.out.below hbw (by omega)
  have q0:=B1.cell 0
  have q1:=B1.cell 1
  have q2:=B1.cell 2
  have q3:=B1.cell 3
  simp only [zA,zB,zC] at q0 q1 q2 q3
  have HB1:=Lib.hid B1
  clear hall B1
  have hz:w.heap.size<wr.heap.size:=by have:=hbw.size;have:=HS.out;omega
  have hbb:Below w.heap.size w wr:=hbW.trans (hbw.mono (by omega))
  by_cases hlt:k<atoms.length
  ·obtain ⟨d,hd⟩:∃d,atoms[k]? = some d:=⟨_,List.getElem?_eq_getElem hlt⟩
   obtain ⟨b1,o1,rfl,hb1,hc1,hc2,hc3⟩:=(HAR.out.keep hbb).diff hd
   obtain ⟨x,y,z⟩:=d
   have HD:=Lib.hid hd
   clear hd
   simp only at hc1 hc2 hc3
   by_cases hxy:x=y
   ·have hxb:(x == y)=true:=by simp [hxy]
    have HXY:=Lib.hid hxy
    clear hxy
    go_wp2
    all_goals
     go_ret
     exact ⟨cL (by rw [fV HD.out (oH fun h=>(gQ.1 h).2.2.2.2.1 HXY.out)];rfl),by go_grown⟩
   ·have hxb:(x == y)=false:=by simp [hxy]
    go_wp2
    case roundEnd =>
     refine ⟨⟨k+1,by omega,by go_num,dP HALL.out HD.out (gQ.2 (by omega)),hbw.alloc (by omega) _⟩,by simp [intOf];omega⟩
    all_goals
     go_ret
     exact ⟨cL (by rw [fV HD.out (oH fun h=>by have:=(gQ (ints:=ints)).1 h;omega)];rfl),by go_grown⟩
  ·have HA:Hid (atoms.all (dV ints)=true):=eY HALL.out (by omega)
   clear HALL HAR hbw HB0
   obtain ⟨w2,rfl⟩:∃w2:World,w2=wr:=⟨_,rfl⟩
   go_wp2
   go_loop [87] (fun i=>∃k:Nat,k≤clauses.length∧i = .int .i64 k∧((clauses.take k).all fun c=>c.all (dF bools))=true) (fun i=>clauses.length-(intOf i).toNat)
   case atStart=>exact ⟨0,by omega,rfl,by simp⟩
   case round =>
    obtain ⟨k,hk,rfl,hall⟩:=hrel
    have HALL:=Lib.hid hall
    clear hall
    by_cases hlt:k<clauses.length
    ·obtain ⟨xs,hxs⟩:∃x,clauses[k]? = some x:=⟨_,List.getElem?_eq_getElem hlt⟩
     obtain ⟨b,off,A1,c1,rfl,hb,hcell,hint⟩:=Mat.at_ HCR.out HC3.out HCI.out hxs
     have hcell2:=(hbb.cell (p:=⟨b,off+k,none⟩) hb).trans hcell
     obtain ⟨_,_,hv,hI1,hI2,hI3,hI4⟩:=hint
     injection hv with hv1 hv2 hv3
     subst hv1 hv3
     have HR:=Lib.hid (hI4.keep hbb)
     have HX:=Lib.hid hxs
     clear hv2 hI3 hI4 hcell hxs
     unfold maxLen at hI2
     go_wp2
     go_loop [93] (fun i=>∃j:Nat,j≤xs.length∧i = .int .i64 j∧((xs.take j).all (dF bools))=true) (fun i=>xs.length-(intOf i).toNat)
     case atStart=>exact ⟨0,by omega,rfl,by simp⟩
     case round =>
      obtain ⟨j,hj,rfl,hall2⟩:=hrel
      have HALL2:=Lib.hid hall2
      clear hall2
      by_cases hlt2:j<xs.length
      ·obtain ⟨x,hx⟩:∃x,xs[j]? = some x:=⟨_,List.getElem?_eq_getElem hlt2⟩
       obtain ⟨b2,o2,rfl,hb2,hc2⟩:=HR.out.int hx
       have HXJ:=Lib.hid hx
       clear hx
       by_cases hx0:x=0
       ·have hxb:(x == 0)=true:=by simp [hx0]
        have HXY:=Lib.hid hx0
        clear hx0
        go_wp2
        all_goals
         go_ret
         exact ⟨cL (by rw [iY HX.out HXJ.out (oH fun h=>((dH (bools:=bools)).1 h).1 HXY.out)];rfl),by go_grown⟩
       ·have hxb:(x == 0)=false:=by simp [hx0]
        go_wp2
        case roundEnd =>
         refine ⟨⟨j+1,by omega,by go_num,dP HALL2.out HXJ.out ((dH (bools:=bools)).2 (by omega))⟩,by simp [intOf];omega⟩
        all_goals
         go_ret
         exact ⟨cL (by rw [iY HX.out HXJ.out (oH fun h=>by have:=(dH (bools:=bools)).1 h;omega)];rfl),by go_grown⟩
      ·have HA2:Hid (xs.all (dF bools)=true):=eY HALL2.out (by omega)
       go_wp2
       go_round
       case rel=>exact ⟨k+1,by omega,by go_num,dP HALL.out HX.out HA2.out⟩
       case measure=>simp [intOf];omega
    ·have HC:Hid ((clauses.all fun c=>c.all (dF bools))=true):=eY HALL.out (by omega)
     go_wp2
     go_ret
     exact ⟨cL (by rw [aZ HA.out HC.out];rfl),by go_grown⟩
set_option maxRecDepth 100000 in
theorem fvalid_head0 (hA:Diffs w av f.atoms) (hM:Mat w cv f.clauses) (g1:32<f.ints) :
  Calls Try.prog 35 #[.agg #[.int .i64 f.ints, .int .i64 f.bools,av,cv]] w fun e w'=>e = .returned (.int .i64 2)∧Below w.heap.size w w':=by
 obtain ⟨A,c,rfl,ha1,ha2,ha3,har⟩:=hA
 obtain ⟨A',c',vs,rfl,hc1,hc2,hc3,hcr,hci⟩:=hM
 clear ha2 hc2 ha3 har hcr hci hc3
 obtain ⟨ints,bools,atoms,clauses⟩:=f
 simp only at *
 have d1:decide (32<ints)=true:=by simp;omega
 go_enter Try.func35,Try.ntmps35
 go_wp2
 go_ret
 exact ⟨rfl,by go_grown⟩
set_option maxRecDepth 100000 in
theorem fvalid_head1 (hA:Diffs w av f.atoms) (hM:Mat w cv f.clauses) (g1:f.ints≤32) (g2:1024<f.bools) :
  Calls Try.prog 35 #[.agg #[.int .i64 f.ints, .int .i64 f.bools,av,cv]] w fun e w'=>e = .returned (.int .i64 2)∧Below w.heap.size w w':=by
 obtain ⟨A,c,rfl,ha1,ha2,ha3,har⟩:=hA
 obtain ⟨A',c',vs,rfl,hc1,hc2,hc3,hcr,hci⟩:=hM
 clear ha2 hc2 ha3 har hcr hci hc3
 obtain ⟨ints,bools,atoms,clauses⟩:=f
 simp only at *
 have d1:decide (32<ints)=false:=by simp;omega
 have d2:decide (1024<bools)=true:=by simp;omega
 go_enter Try.func35,Try.ntmps35
 go_wp2
 go_ret
 exact ⟨rfl,by go_grown⟩
set_option maxRecDepth 100000 in
theorem fvalid_head2 (hA:Diffs w av f.atoms) (hM:Mat w cv f.clauses) (g1:f.ints≤32) (g2:f.bools≤1024) (g3:32768<(f.clauses.length:Int)) :
  Calls Try.prog 35 #[.agg #[.int .i64 f.ints, .int .i64 f.bools,av,cv]] w fun e w'=>e = .returned (.int .i64 2)∧Below w.heap.size w w':=by
 obtain ⟨A,c,rfl,ha1,ha2,ha3,har⟩:=hA
 obtain ⟨A',c',vs,rfl,hc1,hc2,hc3,hcr,hci⟩:=hM
 clear ha2 hc2 ha3 har hcr hci hc3
 obtain ⟨ints,bools,atoms,clauses⟩:=f
 simp only at *
 have d1:decide (32<ints)=false:=by simp;omega
 have d2:decide (1024<bools)=false:=by simp;omega
 have d3:decide (32768<(clauses.length:Int))=true:=by simp;omega
 go_enter Try.func35,Try.ntmps35
 go_wp2
 go_ret
 exact ⟨rfl,by go_grown⟩
set_option maxRecDepth 100000 in
theorem fvalid_head3 (hA:Diffs w av f.atoms) (hM:Mat w cv f.clauses) (g1:f.ints≤32) (g2:f.bools≤1024) (g3:(f.clauses.length:Int)≤32768) (g4:f.ints<0) :
  Calls Try.prog 35 #[.agg #[.int .i64 f.ints, .int .i64 f.bools,av,cv]] w fun e w'=>e = .returned (.int .i64 1)∧Below w.heap.size w w':=by
 obtain ⟨A,c,rfl,ha1,ha2,ha3,har⟩:=hA
 obtain ⟨A',c',vs,rfl,hc1,hc2,hc3,hcr,hci⟩:=hM
 clear ha2 hc2 ha3 har hcr hci hc3
 obtain ⟨ints,bools,atoms,clauses⟩:=f
 simp only at *
 have d1:decide (32<ints)=false:=by simp;omega
 have d2:decide (1024<bools)=false:=by simp;omega
 have d3:decide (32768<(clauses.length:Int))=false:=by simp;omega
 have d4:decide (ints<0)=true:=by simp;omega
 go_enter Try.func35,Try.ntmps35
 go_wp2
 go_ret
 exact ⟨rfl,by go_grown⟩
set_option maxRecDepth 100000 in
theorem fvalid_head4 (hA:Diffs w av f.atoms) (hM:Mat w cv f.clauses) (g1:f.ints≤32) (g2:f.bools≤1024) (g3:(f.clauses.length:Int)≤32768) (g4:0≤f.ints) (g5:f.bools<0) :
  Calls Try.prog 35 #[.agg #[.int .i64 f.ints, .int .i64 f.bools,av,cv]] w fun e w'=>e = .returned (.int .i64 1)∧Below w.heap.size w w':=by
 obtain ⟨A,c,rfl,ha1,ha2,ha3,har⟩:=hA
 obtain ⟨A',c',vs,rfl,hc1,hc2,hc3,hcr,hci⟩:=hM
 clear ha2 hc2 ha3 har hcr hci hc3
 obtain ⟨ints,bools,atoms,clauses⟩:=f
 simp only at *
 have d1:decide (32<ints)=false:=by simp;omega
 have d2:decide (1024<bools)=false:=by simp;omega
 have d3:decide (32768<(clauses.length:Int))=false:=by simp;omega
 have d4:decide (ints<0)=false:=by simp;omega
 have d5:decide (bools<0)=true:=by simp;omega
 go_enter Try.func35,Try.ntmps35
 go_wp2
 go_ret
 exact ⟨rfl,by go_grown⟩
set_option maxRecDepth 100000 in
theorem fvalid_head5 (hA:Diffs w av f.atoms) (hM:Mat w cv f.clauses) (g1:f.ints≤32) (g2:f.bools≤1024) (g3:(f.clauses.length:Int)≤32768) (g4:0≤f.ints) (g5:0≤f.bools) (g6:f.bools<(f.atoms.length:Int)) :
  Calls Try.prog 35 #[.agg #[.int .i64 f.ints, .int .i64 f.bools,av,cv]] w fun e w'=>e = .returned (.int .i64 1)∧Below w.heap.size w w':=by
 obtain ⟨A,c,rfl,ha1,ha2,ha3,har⟩:=hA
 obtain ⟨A',c',vs,rfl,hc1,hc2,hc3,hcr,hci⟩:=hM
 clear ha2 hc2 ha3 har hcr hci hc3
 obtain ⟨ints,bools,atoms,clauses⟩:=f
 simp only at *
 have d1:decide (32<ints)=false:=by simp;omega
 have d2:decide (1024<bools)=false:=by simp;omega
 have d3:decide (32768<(clauses.length:Int))=false:=by simp;omega
 have d4:decide (ints<0)=false:=by simp;omega
 have d5:decide (bools<0)=false:=by simp;omega
 have d6:decide (bools<(atoms.length:Int))=true:=by simp;omega
 go_enter Try.func35,Try.ntmps35
 go_wp2
 go_ret
 exact ⟨rfl,by go_grown⟩
theorem iX (v:Value) (hf:IsForm w v f) :
  Calls Try.prog 35 #[v] w fun e w'=>e = .returned (.int .i64 (validF f))∧Below w.heap.size w w':=by
 obtain ⟨av,cv,rfl,hI,hB,hA,hM⟩:=hf
 by_cases g1:32<f.ints
 ·rw [show validF f=2 by unfold validF;rw [if_pos (by omega)]];exact fvalid_head0 av cv f w hA hM g1
 by_cases g2:1024<f.bools
 ·rw [show validF f=2 by unfold validF;rw [if_pos (by omega)]];exact fvalid_head1 av cv f w hA hM (by omega) g2
 by_cases g3:32768<(f.clauses.length:Int)
 ·rw [show validF f=2 by unfold validF;rw [if_pos (by omega)]];exact fvalid_head2 av cv f w hA hM (by omega) (by omega) g3
 by_cases g4:f.ints<0
 ·rw [show validF f=1 by unfold validF;rw [if_neg (by omega),if_pos (by omega)]];exact fvalid_head3 av cv f w hA hM (by omega) (by omega) (by omega) g4
 by_cases g5:f.bools<0
 ·rw [show validF f=1 by unfold validF;rw [if_neg (by omega),if_pos (by omega)]];exact fvalid_head4 av cv f w hA hM (by omega) (by omega) (by omega) (by omega) g5
 by_cases g6:f.bools<(f.atoms.length:Int)
 ·rw [show validF f=1 by unfold validF;rw [if_neg (by omega),if_pos (by omega)]];exact fvalid_head5 av cv f w hA hM (by omega) (by omega) (by omega) (by omega) (by omega) g6
 rw [aA g1 g2 (by omega) g4 g5 g6]
 exact pY av cv f w hA hM (by omega) (by omega) (by omega) (by omega) (by omega) (by omega)
end
end Go.Proofs.Yticieifacalocaa
