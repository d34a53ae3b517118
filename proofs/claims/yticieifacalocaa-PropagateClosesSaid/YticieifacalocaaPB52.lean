/- PrpBoth ValidRef LawPAny -/
import Derived.Test.YticieifacalocaaPB49
import Derived.Test.YticieifacalocaaPB51
import Derived.Test.YticieifacalocaaPB4
import Derived.Test.YticieifacalocaaPB22
import Derived.Test.YticieifacalocaaPB5
namespace Go.Proofs.Yticieifacalocaa
open Go.RowKit
theorem prop_both {f:Form} {B:Nat} (hv:validF f=0) (hb:f.bools=(B:Int)) (hgx:∀xs∈f.clauses,xs.length≤1000000) (ls:List Int) (hll:ls.length≤1000000) :
  ∃o,PrpOk B f.clauses ls o∧(∀w fv lv,IsForm w fv f→Ints w lv ls→Calls Try.prog 25 #[fv,lv] w (PrpRet w o))∧∀w fv lv,IsForm w fv f→Ints w lv ls→Calls Try.prog 26 #[fv,lv] w (PrpRet w o):=by
 obtain ⟨N,hN⟩:∃N:Nat,f.ints=N:=⟨f.ints.toNat,by have:=(validF_ok hv).2.1;omega⟩
 have hq:=solQ_of hv hb hN
 have hcl:=hq.cl
 obtain ⟨o,h1,h2⟩:=outP_ok (B:=B) (gs:=f.clauses) hq.bl (by unfold LIM;omega) hq.cs ls
 obtain ⟨o2,h3,h4⟩:=rpOut_ok (B:=B) (gs:=f.clauses) hq.cs ls
 have e:=h2.uniq h4
 subst e
 exact ⟨o,h2,fun w fv lv hf hl=>spropagate_any hf hl hq.bl hb hv (by omega) hgx hll h1,fun w fv lv hf hl=>rprop_any hf hl hq.bl hb hq.cs h3⟩
theorem SmallF.lens {a b c:Int} {f:Form} (h:SmallF a b c f):∀xs∈f.clauses,xs.length≤1000000:=fun xs hx=>by
 have:=(h.2.2.2.2.2 xs hx).2.1
 omega
theorem SmallF.bools {a b c:Int} {f:Form} (h:SmallF a b c f):∃B:Nat,f.bools=B∧1≤B∧B≤18:=by
 obtain ⟨-,h2,h3, -⟩:=h
 exact ⟨f.bools.toNat,by omega,by omega,by omega⟩
end Go.Proofs.Yticieifacalocaa
namespace Go.Proofs.Yticieifacalocaa
open Go.RowKit
section
variable (av cv:Value) (f:Form) (w:World)
set_option maxRecDepth 100000 in
set_option maxHeartbeats 2000000 in
theorem rvalid_body (hA:Diffs w av f.atoms) (hM:Mat w cv f.clauses)
  (g1:f.ints≤32) (g2:f.bools≤1024) (g3:(f.clauses.length:Int)≤32768) (g4:0≤f.ints) (g5:0≤f.bools) (g6:(f.atoms.length:Int)≤f.bools) :
  Calls Try.prog 22 #[.agg #[.int .i64 f.ints, .int .i64 f.bools,av,cv]] w fun e w'=>e = .returned (.int .i64 (okNo (bodyOk f)))∧Below w.heap.size w w':=by
 obtain ⟨A,c,rfl,ha1,ha2,ha3,har⟩:=hA
 obtain ⟨A',c',vs,rfl,hc1,hc2,hc3,hcr,hci⟩:=hM
 have HCR:=Lib.hid hcr
 have HCI:=Lib.hid hci
 have HC3:=Lib.hid hc3
 have HAR:=Lib.hid har
 clear ha2 hc2 ha3 har hcr hci hc3
 obtain ⟨ints,bools,atoms,clauses⟩:=f
 simp only at *
 have d1:decide (32<ints)=false:=by simp;omega
 have d2:decide (1024<bools)=false:=by simp;omega
 have d3:decide (32768<(clauses.length:Int))=false:=by simp;omega
 have d4:decide (ints<0)=false:=by simp;omega
 have d5:decide (bools<0)=false:=by simp;omega
 have d6:decide (bools<(atoms.length:Int))=false:=by simp;omega
 go_enter Try.func22,Try.ntmps22
 go_wp2
 have B0:=Blk.new w 29 #[.int .i64 ints, .int .i64 bools, .slice A atoms.length c, .slice A' clauses.length c']
 generalize hW:w.alloc (.cells #[.int .i64 ints, .int .i64 bools, .slice A atoms.length c, .slice A' clauses.length c'] 29)=W at B0 ⊢
 have hsz:W.heap.size=w.heap.size+1:=by rw [←hW];simp
 have hbW:Below w.heap.size w W:=by rw [←hW];go_grown
 have HS:=Lib.hid hsz
 have HB0:=Lib.hid B0
 clear hW hsz B0
 go_loopw [42] (fun i wr=>∃k:Nat,k≤atoms.length∧i = .int .i64 k∧(atoms.take k).all (okAtom ints)=true∧Below (w.heap.size+1) W wr) (fun i _=>atoms.length-(intOf i).toNat)
 case atStart=>exact ⟨0,by omega,rfl,by simp,Below.refl _ _⟩
 case round =>
  obtain ⟨k,hk,rfl,hall,hbw⟩:=hrel
  have HALL:=Lib.hid hall
  have B1:=HB0.out.below hbw (by omega)
  have q0:=B1.cell 0
  have q1:=B1.cell 1
  have q2:=B1.cell 2
  have q3:=B1.cell 3
  simp only [List.getElem?_toArray,List.getElem?_cons_zero,List.getElem?_cons_succ] at q0 q1 q2 q3
  have HB1:=Lib.hid B1
  clear hall B1
  have hz:w.heap.size<wr.heap.size:=by have:=hbw.size;have:=HS.out;omega
  have hbb:Below w.heap.size w wr:=hbW.trans (hbw.mono (by omega))
  by_cases hlt:k<atoms.length
  ·obtain ⟨d,hd⟩:∃d,atoms[k]? = some d:=⟨_,List.getElem?_eq_getElem hlt⟩
   obtain ⟨b1,o1,rfl,hb1,hc1,hc2,hc3⟩:=(HAR.out.keep hbb).diff hd
   obtain ⟨x,y,z⟩:=d
   have HD:=Lib.hid hd
   clear hd
   simp only at hc1 hc2 hc3
   by_cases hxy:x=y
   ·have hxb:(x == y)=true:=by simp [hxy]
    have HXY:=Lib.hid hxy
    clear hxy
    go_wp2
    all_goals
     go_ret
     exact ⟨ret_int (by rw [bodyOk_atom HD.out (not_ok fun h=>(okAtom_iff.1 h).2.2.2.2.1 HXY.out)];rfl),by go_grown⟩
   ·have hxb:(x == y)=false:=by simp [hxy]
    go_wp2
    case roundEnd =>
     refine ⟨⟨k+1,by omega,by go_num,all_take_succ HALL.out HD.out (okAtom_iff.2 (by omega)),hbw.alloc (by omega) _⟩,by simp [intOf];omega⟩
    all_goals
     go_ret
     exact ⟨ret_int (by rw [bodyOk_atom HD.out (not_ok fun h=>by have:=(okAtom_iff (ints:=ints)).1 h;omega)];rfl),by go_grown⟩
  ·have HA:Hid (atoms.all (okAtom ints)=true):=all_take HALL.out (by omega)
   clear HALL HAR hbw HB0
   obtain ⟨w2,rfl⟩:∃w2:World,w2=wr:=⟨_,rfl⟩
   go_wp2
   go_loop [89] (fun i=>∃k:Nat,k≤clauses.length∧i = .int .i64 k∧((clauses.take k).all fun c=>c.all (okLit bools))=true) (fun i=>clauses.length-(intOf i).toNat)
   case atStart=>exact ⟨0,by omega,rfl,by simp⟩
   case round =>
    obtain ⟨k,hk,rfl,hall⟩:=hrel
    have HALL:=Lib.hid hall
    clear hall
    by_cases hlt:k<clauses.length
    ·obtain ⟨xs,hxs⟩:∃x,clauses[k]? = some x:=⟨_,List.getElem?_eq_getElem hlt⟩
     obtain ⟨b,off,A1,c1,rfl,hb,hcell,hint⟩:=Mat.at_ HCR.out HC3.out HCI.out hxs
     have hcell2:=(hbb.cell (p:=⟨b,off+k,none⟩) hb).trans hcell
     obtain ⟨_,_,hv,hI1,hI2,hI3,hI4⟩:=hint
     injection hv with hv1 hv2 hv3
     subst hv1 hv3
     have HR:=Lib.hid (hI4.keep hbb)
     have HX:=Lib.hid hxs
     clear hv2 hI3 hI4 hcell hxs
     unfold maxLen at hI2
     go_wp2
     go_loop [95] (fun i=>∃j:Nat,j≤xs.length∧i = .int .i64 j∧((xs.take j).all (okLit bools))=true) (fun i=>xs.length-(intOf i).toNat)
     case atStart=>exact ⟨0,by omega,rfl,by simp⟩
     case round =>
      obtain ⟨j,hj,rfl,hall2⟩:=hrel
      have HALL2:=Lib.hid hall2
      clear hall2
      by_cases hlt2:j<xs.length
      ·obtain ⟨x,hx⟩:∃x,xs[j]? = some x:=⟨_,List.getElem?_eq_getElem hlt2⟩
       obtain ⟨b2,o2,rfl,hb2,hc2⟩:=HR.out.int hx
       have HXJ:=Lib.hid hx
       clear hx
       by_cases hx0:x=0
       ·have hxb:(x == 0)=true:=by simp [hx0]
        have HXY:=Lib.hid hx0
        clear hx0
        go_wp2
        all_goals
         go_ret
         exact ⟨ret_int (by rw [bodyOk_lit HX.out HXJ.out (not_ok fun h=>((okLit_iff (bools:=bools)).1 h).1 HXY.out)];rfl),by go_grown⟩
       ·have hxb:(x == 0)=false:=by simp [hx0]
        go_wp2
        case roundEnd =>
         refine ⟨⟨j+1,by omega,by go_num,all_take_succ HALL2.out HXJ.out ((okLit_iff (bools:=bools)).2 (by omega))⟩,by simp [intOf];omega⟩
        all_goals
         go_ret
         exact ⟨ret_int (by rw [bodyOk_lit HX.out HXJ.out (not_ok fun h=>by have:=(okLit_iff (bools:=bools)).1 h;omega)];rfl),by go_grown⟩
      ·have HA2:Hid (xs.all (okLit bools)=true):=all_take HALL2.out (by omega)
       go_wp2
       go_round
       case rel=>exact ⟨k+1,by omega,by go_num,all_take_succ HALL.out HX.out HA2.out⟩
       case measure=>simp [intOf];omega
    ·have HC:Hid ((clauses.all fun c=>c.all (okLit bools))=true):=all_take HALL.out (by omega)
     go_wp2
     go_ret
     exact ⟨ret_int (by rw [bodyOk_all HA.out HC.out];rfl),by go_grown⟩
set_option maxRecDepth 100000 in
theorem rvalid_head0 (hA:Diffs w av f.atoms) (hM:Mat w cv f.clauses) (g1:32<f.ints) :
  Calls Try.prog 22 #[.agg #[.int .i64 f.ints, .int .i64 f.bools,av,cv]] w fun e w'=>e = .returned (.int .i64 2)∧Below w.heap.size w w':=by
 obtain ⟨A,c,rfl,ha1,ha2,ha3,har⟩:=hA
 obtain ⟨A',c',vs,rfl,hc1,hc2,hc3,hcr,hci⟩:=hM
 clear ha2 hc2 ha3 har hcr hci hc3
 obtain ⟨ints,bools,atoms,clauses⟩:=f
 simp only at *
 have d1:decide (32<ints)=true:=by simp;omega
 go_enter Try.func22,Try.ntmps22
 go_wp2
 go_ret
 exact ⟨rfl,by go_grown⟩
set_option maxRecDepth 100000 in
theorem rvalid_head1 (hA:Diffs w av f.atoms) (hM:Mat w cv f.clauses) (g1:f.ints≤32) (g2:1024<f.bools) :
  Calls Try.prog 22 #[.agg #[.int .i64 f.ints, .int .i64 f.bools,av,cv]] w fun e w'=>e = .returned (.int .i64 2)∧Below w.heap.size w w':=by
 obtain ⟨A,c,rfl,ha1,ha2,ha3,har⟩:=hA
 obtain ⟨A',c',vs,rfl,hc1,hc2,hc3,hcr,hci⟩:=hM
 clear ha2 hc2 ha3 har hcr hci hc3
 obtain ⟨ints,bools,atoms,clauses⟩:=f
 simp only at *
 have d1:decide (32<ints)=false:=by simp;omega
 have d2:decide (1024<bools)=true:=by simp;omega
 go_enter Try.func22,Try.ntmps22
 go_wp2
 go_ret
 exact ⟨rfl,by go_grown⟩
set_option maxRecDepth 100000 in
theorem rvalid_head2 (hA:Diffs w av f.atoms) (hM:Mat w cv f.clauses) (g1:f.ints≤32) (g2:f.bools≤1024) (g3:32768<(f.clauses.length:Int)) :
  Calls Try.prog 22 #[.agg #[.int .i64 f.ints, .int .i64 f.bools,av,cv]] w fun e w'=>e = .returned (.int .i64 2)∧Below w.heap.size w w':=by
 obtain ⟨A,c,rfl,ha1,ha2,ha3,har⟩:=hA
 obtain ⟨A',c',vs,rfl,hc1,hc2,hc3,hcr,hci⟩:=hM
 clear ha2 hc2 ha3 har hcr hci hc3
 obtain ⟨ints,bools,atoms,clauses⟩:=f
 simp only at *
 have d1:decide (32<ints)=false:=by simp;omega
 have d2:decide (1024<bools)=false:=by simp;omega
 have d3:decide (32768<(clauses.length:Int))=true:=by simp;omega
 go_enter Try.func22,Try.ntmps22
 go_wp2
 go_ret
 exact ⟨rfl,by go_grown⟩
set_option maxRecDepth 100000 in
theorem rvalid_head3 (hA:Diffs w av f.atoms) (hM:Mat w cv f.clauses) (g1:f.ints≤32) (g2:f.bools≤1024) (g3:(f.clauses.length:Int)≤32768) (g4:f.ints<0) :
  Calls Try.prog 22 #[.agg #[.int .i64 f.ints, .int .i64 f.bools,av,cv]] w fun e w'=>e = .returned (.int .i64 1)∧Below w.heap.size w w':=by
 obtain ⟨A,c,rfl,ha1,ha2,ha3,har⟩:=hA
 obtain ⟨A',c',vs,rfl,hc1,hc2,hc3,hcr,hci⟩:=hM
 clear ha2 hc2 ha3 har hcr hci hc3
 obtain ⟨ints,bools,atoms,clauses⟩:=f
 simp only at *
 have d1:decide (32<ints)=false:=by simp;omega
 have d2:decide (1024<bools)=false:=by simp;omega
 have d3:decide (32768<(clauses.length:Int))=false:=by simp;omega
 have d4:decide (ints<0)=true:=by simp;omega
 go_enter Try.func22,Try.ntmps22
 go_wp2
 go_ret
 exact ⟨rfl,by go_grown⟩
set_option maxRecDepth 100000 in
theorem rvalid_head4 (hA:Diffs w av f.atoms) (hM:Mat w cv f.clauses) (g1:f.ints≤32) (g2:f.bools≤1024) (g3:(f.clauses.length:Int)≤32768) (g4:0≤f.ints) (g5:f.bools<0) :
  Calls Try.prog 22 #[.agg #[.int .i64 f.ints, .int .i64 f.bools,av,cv]] w fun e w'=>e = .returned (.int .i64 1)∧Below w.heap.size w w':=by
 obtain ⟨A,c,rfl,ha1,ha2,ha3,har⟩:=hA
 obtain ⟨A',c',vs,rfl,hc1,hc2,hc3,hcr,hci⟩:=hM
 clear ha2 hc2 ha3 har hcr hci hc3
 obtain ⟨ints,bools,atoms,clauses⟩:=f
 simp only at *
 have d1:decide (32<ints)=false:=by simp;omega
 have d2:decide (1024<bools)=false:=by simp;omega
 have d3:decide (32768<(clauses.length:Int))=false:=by simp;omega
 have d4:decide (ints<0)=false:=by simp;omega
 have d5:decide (bools<0)=true:=by simp;omega
 go_enter Try.func22,Try.ntmps22
 go_wp2
 go_ret
 exact ⟨rfl,by go_grown⟩
set_option maxRecDepth 100000 in
theorem rvalid_head5 (hA:Diffs w av f.atoms) (hM:Mat w cv f.clauses) (g1:f.ints≤32) (g2:f.bools≤1024) (g3:(f.clauses.length:Int)≤32768) (g4:0≤f.ints) (g5:0≤f.bools) (g6:f.bools<(f.atoms.length:Int)) :
  Calls Try.prog 22 #[.agg #[.int .i64 f.ints, .int .i64 f.bools,av,cv]] w fun e w'=>e = .returned (.int .i64 1)∧Below w.heap.size w w':=by
 obtain ⟨A,c,rfl,ha1,ha2,ha3,har⟩:=hA
 obtain ⟨A',c',vs,rfl,hc1,hc2,hc3,hcr,hci⟩:=hM
 clear ha2 hc2 ha3 har hcr hci hc3
 obtain ⟨ints,bools,atoms,clauses⟩:=f
 simp only at *
 have d1:decide (32<ints)=false:=by simp;omega
 have d2:decide (1024<bools)=false:=by simp;omega
 have d3:decide (32768<(clauses.length:Int))=false:=by simp;omega
 have d4:decide (ints<0)=false:=by simp;omega
 have d5:decide (bools<0)=false:=by simp;omega
 have d6:decide (bools<(atoms.length:Int))=true:=by simp;omega
 go_enter Try.func22,Try.ntmps22
 go_wp2
 go_ret
 exact ⟨rfl,by go_grown⟩
theorem rvalid_any (v:Value) (hf:IsForm w v f) :
  Calls Try.prog 22 #[v] w fun e w'=>e = .returned (.int .i64 (validF f))∧Below w.heap.size w w':=by
 obtain ⟨av,cv,rfl,hI,hB,hA,hM⟩:=hf
 by_cases g1:32<f.ints
 ·rw [show validF f=2 by unfold validF;rw [if_pos (by omega)]];exact rvalid_head0 av cv f w hA hM g1
 by_cases g2:1024<f.bools
 ·rw [show validF f=2 by unfold validF;rw [if_pos (by omega)]];exact rvalid_head1 av cv f w hA hM (by omega) g2
 by_cases g3:32768<(f.clauses.length:Int)
 ·rw [show validF f=2 by unfold validF;rw [if_pos (by omega)]];exact rvalid_head2 av cv f w hA hM (by omega) (by omega) g3
 by_cases g4:f.ints<0
 ·rw [show validF f=1 by unfold validF;rw [if_neg (by omega),if_pos (by omega)]];exact rvalid_head3 av cv f w hA hM (by omega) (by omega) (by omega) g4
 by_cases g5:f.bools<0
 ·rw [show validF f=1 by unfold validF;rw [if_neg (by omega),if_pos (by omega)]];exact rvalid_head4 av cv f w hA hM (by omega) (by omega) (by omega) (by omega) g5
 by_cases g6:f.bools<(f.atoms.length:Int)
 ·rw [show validF f=1 by unfold validF;rw [if_neg (by omega),if_pos (by omega)]];exact rvalid_head5 av cv f w hA hM (by omega) (by omega) (by omega) (by omega) (by omega) g6
 rw [validF_body g1 g2 (by omega) g4 g5 g6]
 exact rvalid_body av cv f w hA hM (by omega) (by omega) (by omega) (by omega) (by omega) (by omega)
end
end Go.Proofs.Yticieifacalocaa
namespace Go.Proofs.Yticieifacalocaa
open Go.RowKit
def sumTo5:Nat→List Nat→Nat
 | n,[]=>n
 | n,l::r=>if n<5000 then sumTo5 (n+l) r else n
theorem sumTo5_small {n:Nat} {l:List Nat} (h:¬1500<sumTo5 n l):n+l.sum≤1500:=by
 induction l generalizing n with
 | nil=>simp [sumTo5] at h ⊢;exact h
 | cons a r ih =>
  rw [sumTo5] at h
  by_cases hn:n<5000
  ·rw [if_pos hn] at h
   have:=ih h
   simp;omega
  ·rw [if_neg hn] at h;omega
theorem le_sum5 {l:List Nat} {a:Nat} (h:a∈l):a≤l.sum:=by
 induction l with
 | nil=>cases h
 | cons b r ih =>
  rw [List.sum_cons]
  rcases List.mem_cons.1 h with rfl|h
  ·omega
  ·have:=ih h;omega
set_option maxRecDepth 100000 in
set_option maxHeartbeats 4000000 in
theorem lawPAny (fv lv:Value) (f:Form) (ls:List Int) (w:World) (hf:IsForm w fv f) (ha:f.atoms.length≤140737488355328) (hc:f.clauses.length≤140737488355328) (hcl:∀xs∈f.clauses,xs.length≤140737488355328) (hl:Ints w lv ls) (hll:ls.length≤140737488355328) :
  Calls Try.prog 11 #[fv,lv] w fun e w'=>e = .returned (.bool true)∧Below w.heap.size w w':=by
 have HF:=Lib.hid hf
 have HLL:=Lib.hid hl
 have HCL:=Lib.hid hcl
 obtain ⟨av,cv,rfl,hi1,hi2,had,hmt⟩:=hf
 obtain ⟨Aa,ca,rfl, -,ha2, -, -⟩:=had
 obtain ⟨Ac,cc,vs,rfl, -,hc2,hvl,hrd,hvs⟩:=hmt
 obtain ⟨Al,cl,rfl, -,hl2, -, -⟩:=hl
 have HVL:=Lib.hid hvl
 have HBK:=Lib.hid (Blk.new w 29 #[.int .i64 f.ints, .int .i64 f.bools, .slice Aa f.atoms.length ca, .slice Ac f.clauses.length cc])
 have HB:Hid (Below w.heap.size w (w.alloc (.cells #[.int .i64 f.ints, .int .i64 f.bools, .slice Aa f.atoms.length ca, .slice Ac f.clauses.length cc] 29))):=Lib.hid ((Below.refl _ _).alloc (Nat.le_refl _) _)
 have HRD:=Lib.hid (hrd.keep HB.out)
 have HVS:=Lib.hid (fun k u xs h1 h2=>(hvs k u xs h1 h2).keep HB.out)
 clear hi1 hi2 ha2 hc2 hl2 hvl hrd hvs hcl
 go_enter Try.func11,Try.ntmps11
 go_upto_region 1 with fail
 generalize w.alloc (.cells #[.int .i64 f.ints, .int .i64 f.bools, .slice Aa f.atoms.length ca, .slice Ac f.clauses.length cc] 29)=W at *
 have q0:=HBK.out.cell 0
 have q1:=HBK.out.cell 1
 have q2:=HBK.out.cell 2
 have q3:=HBK.out.cell 3
 simp only [List.getElem?_toArray,List.getElem?_cons_zero,List.getElem?_cons_succ] at q0 q1 q2 q3
 go_wp2_with fail
 obtain ⟨n0,hn0⟩:∃n0:Nat,f.atoms.length+f.clauses.length+ls.length=n0:=⟨_,rfl⟩
 have en0:(f.atoms.length:Int)+(f.clauses.length:Int)+(ls.length:Int)=(n0:Int):=by omega
 try rw [en0]
 have HN0:=Lib.hid hn0
 have hn9:n0≤1000000000000000:=by omega
 have HAN:=Lib.hid (And.intro ha hll)
 clear hn0 en0 ha hll
 go_loop [5,6] (fun s i=>∃k n:Nat,k≤f.clauses.length∧i = .int .i64 (k:Nat)∧s = .int .i64 (n:Nat)∧n≤1000000000000000∧Hid (sumTo5 n ((f.clauses.map List.length).drop k)=sumTo5 n0 (f.clauses.map List.length))) (fun _ i=>f.clauses.length-(intOf i).toNat)
 case atStart=>exact ⟨0,n0,by omega,rfl,rfl,hn9,Lib.hid rfl⟩
 case round =>
  obtain ⟨k,n,hk,rfl,rfl,hn',HS⟩:=hrel
  by_cases hlt:k<f.clauses.length
  ·by_cases hnn:n<5000
   ·obtain ⟨xs,hx⟩:∃xs,f.clauses[k]? = some xs:=⟨_,List.getElem?_eq_getElem hlt⟩
    have HN:Hid (sumTo5 (n+xs.length) ((f.clauses.map List.length).drop (k+1))=sumTo5 n ((f.clauses.map List.length).drop k)):=by
     refine Lib.hid ?_
     have hk2:k<(f.clauses.map List.length).length:=by rw [List.length_map];exact hlt
     rw [List.drop_eq_getElem_cons hk2,sumTo5,if_pos hnn]
     have:(f.clauses.map List.length)[k]=xs.length:=by
      rw [List.getElem_map]
      obtain ⟨_,h2⟩:=List.getElem?_eq_some_iff.1 hx
      rw [h2]
     rw [this]
    obtain ⟨b1,o1,A',c',rfl,hb1,hcell, -⟩:=Mat.at_ HRD.out HVL.out HVS.out hx
    have hxl:=HCL.out xs (List.mem_of_getElem? hx)
    have hnb:decide ((n:Int)<5000)=true:=by simp;omega
    have hnI:(n:Int)≤4999:=by omega
    have hxI:(xs.length:Int)≤140737488355328:=by omega
    have HX:=Lib.hid hxl
    have HNN:=Lib.hid hnn
    have HLT:=Lib.hid hlt
    clear hnn hn' hx hb1 hxl
    go_wp2_with fail
    have hlt:=HLT.out
    go_round
    case rel=>exact ⟨k+1,n+xs.length,by omega,by go_num,by go_num,by have:=HX.out;have:=HNN.out;omega,Lib.hid (by rw [HN.out,HS.out])⟩
    case measure=>simp [intOf];omega
   ·have hnb:decide ((n:Int)<5000)=false:=by simp;omega
    have hnc:decide ((n:Int) > 1500)=true:=by simp;omega
    have hnd:decide (1500<(n:Int))=true:=by simp;omega
    have hne:1500<(n:Int):=by omega
    clear hnn hn' hk
    go_wp2_with fail
    refine (awake34 _).mono ?_
    rintro e w8 ⟨rfl,hb8⟩
    have HB8:=Lib.hid (HB.out.trans (hb8.mono (by have:=HB.out.size;omega)))
    clear hb8
    go_wp2_with fail
    go_ret
    exact ⟨rfl,HB8.out⟩
  ·have HN:Hid (sumTo5 n ((f.clauses.map List.length).drop k)=n):=by
    refine Lib.hid ?_
    rw [List.drop_eq_nil_of_le (by rw [List.length_map];omega),sumTo5]
   obtain rfl:k=f.clauses.length:=by omega
   have yk:¬(f.clauses.length<f.clauses.length):=by omega
   by_cases hn5:1500<n
   ·have hnc:decide ((n:Int) > 1500)=true:=by simp;omega
    have hnd:decide (1500<(n:Int))=true:=by simp;omega
    have hne:1500<(n:Int):=by omega
    clear hn' hk hlt
    go_wp2_with fail
    refine (awake34 _).mono ?_
    rintro e w8 ⟨rfl,hb8⟩
    have HB8:=Lib.hid (HB.out.trans (hb8.mono (by have:=HB.out.size;omega)))
    clear hb8
    go_wp2_with fail
    go_ret
    exact ⟨rfl,HB8.out⟩
   ·have hnc:decide ((n:Int) > 1500)=false:=by simp;omega
    have hnd:decide (1500<(n:Int))=false:=by simp;omega
    have hne:¬(1500<(n:Int)):=by omega
    have HS5:Hid (n0+(f.clauses.map List.length).sum≤1500):=Lib.hid (sumTo5_small (by rw [←HS.out,HN.out];exact hn5))
    have HF3:=Lib.hid (HF.out.keep HB.out)
    clear hn' hk hlt hn5
    go_wp2_with fail
    refine (rvalid_any f _ _ HF3.out).mono ?_
    rintro e W1 ⟨rfl,hb1⟩
    have HB1:=Lib.hid (HB.out.trans (hb1.mono (by have:=HB.out.size;omega)))
    have HF4:=Lib.hid (HF3.out.keep hb1)
    have HBK4:=Lib.hid (HBK.out.keep hb1)
    clear q0 q1 q2 q3
    have q0:=HBK4.out.cell 0
    have q1:=HBK4.out.cell 1
    have q2:=HBK4.out.cell 2
    have q3:=HBK4.out.cell 3
    simp only [List.getElem?_toArray,List.getElem?_cons_zero,List.getElem?_cons_succ] at q0 q1 q2 q3
    by_cases hv:validF f=0
    ·have yv:(validF f != 0)=false:=by simpa using hv
     have HV:=Lib.hid hv
     obtain ⟨B,hB⟩:∃B:Nat,f.bools=(B:Int):=⟨f.bools.toNat,by have:=(validF_ok hv).2.2;omega⟩
     have HI0:=Lib.hid (HLL.out.keep HB1.out)
     obtain ⟨o, -,hc1,hc2⟩:=prop_both (f:=f) hv hB (fun xs hx=>by have h1:=HS5.out;have h2:xs.length≤(f.clauses.map List.length).sum:=le_sum5 (List.mem_map.2 ⟨xs,hx,rfl⟩);omega) ls (by have h1:=HS5.out;have h2:=HN0.out;omega)
     have HC1:=Lib.hid hc1
     have HC2:=Lib.hid hc2
     rw [hv]
     rw [hB] at *
     clear hb1 HF3 HBK hc1 hc2 hv
     go_wp2_with fail
     refine (HC1.out W1 _ _ HF4.out HI0.out).mono ?_
     rintro e w5 ⟨v1,rfl,ho1,hb5⟩
     have HV1:=Lib.hid (Own.ints ho1)
     have HB5:=Lib.hid hb5
     have hbk:=HBK4.out.keep hb5
     have HF5:=Lib.hid (HF4.out.keep hb5)
     have HI5:=Lib.hid (HI0.out.keep hb5)
     clear q0 q1 q2 q3
     have q0:=hbk.cell 0
     have q1:=hbk.cell 1
     have q2:=hbk.cell 2
     have q3:=hbk.cell 3
     simp only [List.getElem?_toArray,List.getElem?_cons_zero,List.getElem?_cons_succ] at q0 q1 q2 q3
     clear ho1 hb5 hbk HI0 HF4 HBK4
     go_wp2_with fail
     refine (HC2.out w5 _ _ HF5.out HI5.out).mono ?_
     rintro e w6 ⟨v2,rfl,ho2,hb6⟩
     have HV2:=Lib.hid (Own.ints ho2)
     have HV1b:=Lib.hid (HV1.out.keep hb6)
     have HB6:Hid (Below w.heap.size w w6):=Lib.hid (HB1.out.trans ((HB5.out.trans (hb6.mono HB5.out.size)).mono HB1.out.size))
     clear ho2 hb6 HV1 q0 q1 q2 q3 HF5 HI5 HC1 HC2
     generalize hbo:o.isSome=bo at *
     have ybo:(bo == bo)=true:=by simp
     clear hbo
     go_wp2_with fail
     refine (same_any _ _ _ _ _ HV1b.out HV2.out).mono ?_
     rintro e w7 ⟨rfl,n7,rfl⟩
     rw [decide_eq_true rfl]
     go_wp2_with fail
     refine (awake34 _).mono ?_
     rintro e w8 ⟨rfl,hb8⟩
     have HB8:=Lib.hid ((below_drewN HB6.out n7).trans (hb8.mono HB6.out.size))
     clear hb8
     go_wp2_with fail
     go_ret
     exact ⟨rfl,HB8.out⟩
    ·have yv:(validF f != 0)=true:=by simpa using hv
     clear hv hb1
     go_wp2_with fail
     refine (awake34 _).mono ?_
     rintro e w8 ⟨rfl,hb8⟩
     have HB8:=Lib.hid (HB1.out.trans (hb8.mono HB1.out.size))
     clear hb8
     go_wp2_with fail
     go_ret
     exact ⟨rfl,HB8.out⟩
end Go.Proofs.Yticieifacalocaa
