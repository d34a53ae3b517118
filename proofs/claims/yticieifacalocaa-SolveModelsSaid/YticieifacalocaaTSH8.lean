/- CyclicR Resolvent ClausesRef -/
import Derived.Test.YticieifacalocaaTSH6
import Derived.Test.YticieifacalocaaTSH7
import Derived.Deep.RegionHeld3
namespace Go.Proofs.Yticieifacalocaa
open Go.RowKit
structure CR (w wr:World) (fv:Array Value) (v6 v7 v8:Value) (ds:List Diff) (xs ys:List Int):Prop where
 b0:Blk wr w.heap.size 29 fv
 o6:wr.ownsRow (w.heap.size+1) 50 3 v6 ds.length (ds.flatMap Diff.cells)
 o7:wr.ownsRow (w.heap.size+1) 3 1 v7 xs.length (xs.map (Value.int .i64))
 o8:wr.ownsRow (w.heap.size+1) 3 1 v8 ys.length (ys.map (Value.int .i64))
 a67:Apart v6 v7
 a68:Apart v6 v8
 a78:Apart v7 v8
 hi:w.heap.size+1≤wr.heap.size
 bl:Below w.heap.size w wr
section
variable {w wr w':World} {fv:Array Value} {v6 v7 v8:Value} {ds:List Diff} {xs ys:List Int}
theorem CR.keep (h:CR w wr fv v6 v7 v8 ds xs ys) (hb:Below wr.heap.size wr w'):CR w w' fv v6 v7 v8 ds xs ys :=
 ⟨h.b0.keep hb,gS h.o6 hb,gS h.o7 hb,gS h.o8 hb,h.a67,h.a68,h.a78,qA h.hi hb.size,h.bl.trans (hb.mono h.bl.size)⟩
theorem CR.push6 {v6':Value} {d:Diff} (h:CR w wr fv v6 v7 v8 ds xs ys) (ho:w'.ownsRow (w.heap.size+1) 50 3 v6' (ds.length+1) (ds.flatMap Diff.cells++d.cells)) (hg:wr.grownBy w' v6.ownBlock) (hat:v6'.ownBlock=v6.ownBlock∨v6'.ownBlock=some wr.heap.size):CR w w' fv v6' v7 v8 (ds++[d]) xs ys:=by
 refine ⟨h.b0.grown hg fun e => ?_,by simpa using ho,h.o7.kept hg h.a67.symm.ne,h.o8.kept hg h.a68.symm.ne,(h.a67.symm.append (fun g e=>(h.o7.lt g e).2) hat).symm,(h.a68.symm.append (fun g e=>(h.o8.lt g e).2) hat).symm,h.a78,qA h.hi hg.size,h.bl.grown hg h.bl.size fun g e => ?_⟩
 ·have:=(h.o6.lt _ e.symm).1;omega
 ·have:=(h.o6.lt g e).1;omega
theorem CR.push7 {v7':Value} {x:Int} (h:CR w wr fv v6 v7 v8 ds xs ys) (ho:w'.ownsRow (w.heap.size+1) 3 1 v7' (xs.length+1) (xs.map (Value.int .i64)++[.int .i64 x])) (hg:wr.grownBy w' v7.ownBlock) (hat:v7'.ownBlock=v7.ownBlock∨v7'.ownBlock=some wr.heap.size):CR w w' fv v6 v7' v8 ds (xs++[x]) ys:=by
 refine ⟨h.b0.grown hg fun e => ?_,h.o6.kept hg h.a67.ne,by simpa using ho,h.o8.kept hg h.a78.symm.ne,h.a67.append (fun g e=>(h.o6.lt g e).2) hat,h.a68,(h.a78.symm.append (fun g e=>(h.o8.lt g e).2) hat).symm,qA h.hi hg.size,h.bl.grown hg h.bl.size fun g e => ?_⟩
 ·have:=(h.o7.lt _ e.symm).1;omega
 ·have:=(h.o7.lt g e).1;omega
theorem CR.push8 {v8':Value} {x:Int} (h:CR w wr fv v6 v7 v8 ds xs ys) (ho:w'.ownsRow (w.heap.size+1) 3 1 v8' (ys.length+1) (ys.map (Value.int .i64)++[.int .i64 x])) (hg:wr.grownBy w' v8.ownBlock) (hat:v8'.ownBlock=v8.ownBlock∨v8'.ownBlock=some wr.heap.size):CR w w' fv v6 v7 v8' ds xs (ys++[x]):=by
 refine ⟨h.b0.grown hg fun e => ?_,h.o6.kept hg h.a68.ne,h.o7.kept hg h.a78.ne,by simpa using ho,h.a67,h.a68.append (fun g e=>(h.o6.lt g e).2) hat,h.a78.append (fun g e=>(h.o7.lt g e).2) hat,qA h.hi hg.size,h.bl.grown hg h.bl.size fun g e => ?_⟩
 ·have:=(h.o8.lt _ e.symm).1;omega
 ·have:=(h.o8.lt g e).1;omega
end
set_option maxRecDepth 100000 in
set_option maxHeartbeats 2000000 in
theorem oS (i j av cv lv:Value) (atoms:List Diff) (lits:List Int) (w:World) (ha:Diffs w av atoms) (hl:Ints w lv lits) (hok:OkC atoms) (hn:lits.length≤1000000) (hat:atoms.length≤1000000) :
  Calls Try.prog 74 #[.agg #[i,j,av,cv],lv] w (ClRet w (cyc atoms lits)):=by
 obtain ⟨A,c,rfl,h1,h2,h3,hr⟩:=hl
 unfold maxLen at h2
 have HA:=Lib.hid ha
 have HX:=Lib.hid h3
 have HR:=Lib.hid hr
 have HOK:=Lib.hid hok
 have HAT:=Lib.hid hat
 obtain ⟨Aa,ca,rfl, -, -, -, -⟩:=ha
 obtain ⟨iD,hiD,hzD0,hzD1,hzD2⟩:=qD fA
 obtain ⟨iI,hiI,hzI0,hzI1,hzI2⟩:=qD wV
 clear h3 hr hok hat
 go_enter Try.func74,Try.ntmps74
 go_wp2_with fail
 have hCR:CR w (w.alloc (.cells #[i,j, .slice Aa atoms.length ca,cv] 29)) #[i,j, .slice Aa atoms.length ca,cv] (.slice none 0 0) (.slice none 0 0) (.slice none 0 0) [] [] [] :=
  ⟨Blk.new _ _ _,qE _ _ _ _,qE _ _ _ _,qE _ _ _ _,Apart.nil_left _,Apart.nil_left _,Apart.nil_left _,by simp,by go_grown⟩
 generalize w.alloc (.cells #[i,j, .slice Aa atoms.length ca,cv] 29)=W at *
 have HCR:=Lib.hid hCR
 clear hCR
 go_loopw [6,7,8,15] (fun v6 v7 v8 i_ wr=>∃(k:Nat) (ds:List Diff),k≤lits.length∧i_ = .int .i64 k∧ds.length=k∧(lits.take k).map (bound atoms)=ds.map some∧CR w wr #[i,j, .slice Aa atoms.length ca,cv] v6 v7 v8 ds (idx k) ((lits.take k).map (fun x => -x))) (fun _ _ _ i_ _=>lits.length-(intOf i_).toNat)
 case atStart=>exact ⟨0,[],by omega,rfl,rfl,rfl,HCR.out⟩
 case round =>
  obtain ⟨k,ds,hk,rfl,hds,hbn,hcs⟩:=hrel
  generalize hys:(lits.take k).map (fun x => -x)=ys at hcs
  have HYS:=Lib.hid hys
  clear hys
  have H1:=Lib.hid hcs
  have HDS:=Lib.hid hds
  have HBN:=Lib.hid hbn
  have q0:=hcs.b0.cell 0
  have q1:=hcs.b0.cell 1
  have q2:=hcs.b0.cell 2
  have q3:=hcs.b0.cell 3
  simp only [zA,zB,zC] at q0 q1 q2 q3
  clear hcs hds hbn
  by_cases hlt:k<lits.length
  ·obtain ⟨x,hxk⟩:∃x,lits[k]? = some x:=⟨_,List.getElem?_eq_getElem hlt⟩
   obtain ⟨b1,o1,rfl,hb1,hc1⟩:=(HR.out.keep H1.out.bl).int hxk
   have HXK:=Lib.hid hxk
   have HIX:=Lib.hid (HX.out x (List.mem_of_getElem? hxk))
   clear hxk
   go_wp2_with fail
   refine (rbound_any _ _ _ _ atoms _ x (HA.out.keep H1.out.bl) (fun d hd=>by have:=(HOK.out d hd).2.1;omega) HIX.out).mono ?_
   rintro e w2 ⟨rfl,hb2⟩
   have H2:=Lib.hid (H1.out.keep hb2)
   clear hb2 q0 q1 q2 q3
   cases hbd:bound atoms x with
   | none =>
    have HC:Hid (cyc atoms lits=none):=by
     refine Lib.hid ?_
     unfold cyc;rw [bnds_none (List.mem_of_getElem? HXK.out) hbd]
    rw [show boundVal none = .tuple #[.agg #[.int .i64 0, .int .i64 0, .int .i64 0], .bool false] from rfl]
    clear hbd
    go_wp2_with fail
    go_ret2
    exact ClRet.no HC.out (by have:=H2.out.bl;exact this.alloc this.size _)
   | some d =>
    rw [show boundVal (some d) = .tuple #[.agg #[.int .i64 d.x, .int .i64 d.y, .int .i64 d.c], .bool true] from rfl]
    have HBD:=Lib.hid hbd
    have hx0:x ≠ -9223372036854775808:=by
     rcases nC hbd with h|h
     ·exact h
     ·have:=HAT.out;omega
    have hx1 : -9223372036854775807≤x:=by have:=HIX.out.1;omega
    have hx2:x≤9223372036854775807:=HIX.out.2
    clear hbd hx0
    have H3:Hid (CR w (w2.alloc (.cells #[.int .i64 d.x, .int .i64 d.y, .int .i64 d.c] 50)) #[i,j, .slice Aa atoms.length ca,cv] u6 u7 u8 ds (idx k) ys):=H2.out.keep (by go_grown)
    obtain ⟨A6,c6,e6, -, -, -⟩:=wB H3.out.o6
    obtain ⟨A7,c7,e7, -, -, -⟩:=wB H3.out.o7
    obtain ⟨A8,c8,e8, -, -, -⟩:=wB H3.out.o8
    subst e6 e7 e8
    have hdl:=HDS.out
    have hil:=oA k
    have hll:ys.length=k:=by rw [←HYS.out];simp;omega
    have HDL:=Lib.hid hdl
    have HIL:=Lib.hid hil
    have HLL:=Lib.hid hll
    clear hdl hil hll
    go_wp2_with (at_builtin;refine zW _ rfl _ _ 26 rfl (w.heap.size+1) 50 iD (.agg #[.int .i64 0, .int .i64 0, .int .i64 0]) 3 24 Try.underlying26 hiD hzD0 hzD1 hzD2 rfl (by decide) _ _ _ rfl (H3.out.o6.alloc _) ⟨w2.heap.size+1,0,none⟩ 1 1 [.int .i64 d.x, .int .i64 d.y, .int .i64 d.c] rfl rfl ?a1 ?a2 ?a3 ?a4 ?a5 ?_)
    case a1=>exact wY (w2.alloc (.cells #[.int .i64 d.x, .int .i64 d.y, .int .i64 d.c] 50)) _ [.int .i64 d.x, .int .i64 d.y, .int .i64 d.c] (by simp)
    case a2=>intro u hu;simp at hu;rcases hu with rfl|rfl|rfl<;>rfl
    case a3=>rw [HDL.out];unfold maxLen;omega
    case a4=>rw [HDL.out];omega
    case a5=>have:=H3.out.hi;simp at this ⊢;omega
    intro v6' w4 hown' hgrow _ hat
    have H4:=Lib.hid ((H3.out.keep (by go_grown)).push6 (d:=d) hown' hgrow (by simpa using hat))
    obtain ⟨A6',c6',e6, -, -, -⟩:=wB hown'
    subst e6
    clear hown' hgrow hat
    go_wp2_with (at_builtin;refine zW _ rfl _ _ 33 rfl (w.heap.size+1) 3 iI (.int .i64 0) 1 8 Try.underlying33 hiI hzI0 hzI1 hzI2 rfl (by decide) _ _ _ rfl (H4.out.o7.alloc _) ⟨w4.heap.size,0,none⟩ 1 1 [.int .i64 (k:Int)] rfl rfl ?b1 ?b2 ?b3 ?b4 ?b5 ?_)
    case b1=>exact wR w4 _ _
    case b2=>intro u hu;simp at hu;subst hu;rfl
    case b3=>rw [HIL.out];unfold maxLen;omega
    case b4=>rw [HIL.out];omega
    case b5=>have:=H4.out.hi;simp;omega
    intro v7' w5 hown' hgrow _ hat
    have H5:=Lib.hid ((H4.out.keep (by go_grown)).push7 (x:=(k:Int)) hown' hgrow (by simpa using hat))
    obtain ⟨A7',c7',e7, -, -, -⟩:=wB hown'
    subst e7
    clear hown' hgrow hat
    go_wp2_with (at_builtin;refine zW _ rfl _ _ 33 rfl (w.heap.size+1) 3 iI (.int .i64 0) 1 8 Try.underlying33 hiI hzI0 hzI1 hzI2 rfl (by decide) _ _ _ rfl (H5.out.o8.alloc _) ⟨w5.heap.size,0,none⟩ 1 1 [.int .i64 (-x)] rfl rfl ?c1 ?c2 ?c3 ?c4 ?c5 ?_)
    case c1=>exact wR w5 _ _
    case c2=>intro u hu;simp at hu;subst hu;rfl
    case c3=>rw [HLL.out];unfold maxLen;omega
    case c4=>rw [HLL.out];omega
    case c5=>have:=H5.out.hi;simp;omega
    intro v8' w6 hown' hgrow _ hat
    have H6:=Lib.hid ((H5.out.keep (by go_grown)).push8 (x := -x) hown' hgrow (by simpa using hat))
    obtain ⟨A8',c8',e8, -, -, -⟩:=wB hown'
    subst e8
    clear hown' hgrow hat
    have H7:Hid (CR w w6 #[i,j, .slice Aa atoms.length ca,cv] (.slice A6' (ds.length+1) c6') (.slice A7' ((idx k).length+1) c7') (.slice A8' (ys.length+1) c8') (ds++[d]) (idx (k+1)) ((lits.take (k+1)).map (fun x => -x))):=by
     have h:=H6.out
     rw [idx_succ,wL HXK.out,List.map_append,HYS.out]
     exact h
    go_wp2_with fail
    go_roundw
    case rel=>exact ⟨k+1,ds++[d],by omega,by go_num,by simp [HDS.out],bnds_take HBN.out HXK.out HBD.out,H7.out⟩
    case measure=>simp [intOf];omega
  ·obtain rfl:k=lits.length:=by omega
   have HBS:Hid (iF atoms lits=some ds):=bA.2 (by have h:=HBN.out;rwa [yC] at h)
   have hdok:=bnds_ok HOK.out (by have h:=HBN.out;rwa [yC] at h)
   have HDO:=Lib.hid hdok
   have hD:=cK H1.out.o6 (fun d hd=>(HDO.out d hd).1)
   have hI:Ints wr u7 (idx lits.length):=Own.ints (base:=w.heap.size+1) ⟨H1.out.o7,fun x hx=>by obtain ⟨q,hq,rfl⟩:=List.mem_map.1 hx;have:=List.mem_range.1 hq;constructor<;>omega⟩
   have HD1:=Lib.hid hD
   have HI1:=Lib.hid hI
   have HO8:Hid (wr.ownsRow (w.heap.size+1) 3 1 u8 (lits.map (fun x => -x)).length ((lits.map (fun x => -x)).map (Value.int .i64))):=by
    have h:=H1.out.o8
    rw [←HYS.out,yC] at h
    exact h
   clear hD hI hdok q0 q1 q2 q3
   go_wp2_with fail
   refine (sZ _ _ ds _ HD1.out (by rw [HDS.out];exact HI1.out) (fun d hd=>(HDO.out d hd).2) (by rw [HDS.out];exact hn)).mono ?_
   rintro e w2 ⟨rfl,hb2⟩
   have H2:=Lib.hid (H1.out.bl.trans (hb2.mono H1.out.bl.size))
   have HN2:=Lib.hid (gS HO8.out hb2)
   clear hb2
   cases hcy:cycB ds with
   | false =>
    have HC:Hid (cyc atoms lits=none):=by
     refine Lib.hid ?_
     unfold cyc;rw [HBS.out];simp [hcy]
    clear hcy
    simp only
    go_wp2_with fail
    go_ret2
    exact ClRet.no HC.out H2.out
   | true =>
    have HC:Hid (cyc atoms lits=wJ (lits.map (fun x => -x))):=by
     refine Lib.hid ?_
     unfold cyc;rw [HBS.out];simp [hcy]
    clear hcy
    have hI2:Ints w2 u8 (lits.map (fun x => -x)):=by
     refine Own.ints (base:=w.heap.size+1) ⟨HN2.out,fun y hy => ?_⟩
     obtain ⟨x,hx,rfl⟩:=List.mem_map.1 hy
     exact neg_i64 HBS.out hx (HX.out x hx) HAT.out
    have HI2:=Lib.hid hI2
    clear hI2
    simp only
    go_wp2_with fail
    refine (cP _ (lits.map (fun x => -x)) _ HI2.out (by simp;omega)).mono ?_
    intro e w3 hnr
    have hcl:=NormRet.cl (w:=w) hnr HC.out H2.out
    clear hnr
    obtain ⟨v,rfl,h5,h6⟩:=hcl
    have H5:=Lib.hid h5
    have H6:=Lib.hid h6
    clear h5 h6
    go_wp2_with fail
    go_ret2
    exact ⟨v,rfl,H5.out,H6.out⟩
set_option maxRecDepth 100000 in
theorem dE (v:Value) (zs:List Int) (x:Int) (w:World) (hv:Ints w v zs) :
  Calls Try.prog 75 #[v, .int .i64 x] w fun e w'=>e = .returned (.bool (decide (x∈zs)))∧w=w':=by
 obtain ⟨A,c,rfl,h1,h2,h3,hr⟩:=hv
 unfold maxLen at h2
 have HR:=Lib.hid hr
 clear h3 hr
 go_enter Try.func75,Try.ntmps75
 go_wp2_with fail
 go_loop [9] (fun i=>∃k:Nat,k≤zs.length∧i = .int .i64 k∧x∉zs.take k) (fun i=>zs.length-(intOf i).toNat)
 case atStart=>exact ⟨0,by omega,rfl,by simp⟩
 case round =>
  obtain ⟨k,hk,rfl,hno⟩:=hrel
  have HNO:=Lib.hid hno
  clear hno
  by_cases hlt:k<zs.length
  ·obtain ⟨y,hy⟩:∃y,zs[k]? = some y:=⟨_,List.getElem?_eq_getElem hlt⟩
   obtain ⟨b,o,rfl,hb,hc⟩:=HR.out.int hy
   have HY:=Lib.hid hy
   clear hy
   by_cases e:y=x
   ·have de:(y == x)=true:=by simp [e]
    have HIN:Hid (x∈zs):=e ▸ List.mem_of_getElem? HY.out
    clear e
    go_wp2_with fail
    go_ret
    exact ⟨rE (by simp [HIN.out]),rfl⟩
   ·have de:(y == x)=false:=by simp [e]
    have HN:Hid (x∉zs.take (k+1)):=by
     refine Lib.hid ?_
     rw [wL HY.out]
     simp only [zK,zH,jG]
     exact ⟨HNO.out,fun h=>e h.symm⟩
    clear e
    go_wp2_with fail
    go_round
    case rel=>exact ⟨k+1,by omega,by go_num,HN.out⟩
    case measure=>simp [intOf];omega
  ·have HN:Hid (x∉zs):=by
    have h:=HNO.out
    rwa [zU (by omega)] at h
   go_wp2_with fail
   go_ret
   exact ⟨rE (by simp [HN.out]),rfl⟩
def rF (a x:Int):Bool:=decide (x≠a)
theorem lY {l:List Int} {k:Nat} {x a:Int} (hk:l[k]? = some x) (h:x≠a):(l.take (k+1)).filter (rF a)=(l.take k).filter (rF a)++[x]:=by
 rw [wL hk,List.filter_append];simp [rF,h]
theorem lV {l:List Int} {k:Nat} {x a:Int} (hk:l[k]? = some x) (h:x=a):(l.take (k+1)).filter (rF a)=(l.take k).filter (rF a):=by
 rw [wL hk,List.filter_append];simp [rF,h]
set_option maxRecDepth 100000 in
set_option maxHeartbeats 2000000 in
theorem iP (pv qv:Value) (P Q:List Int) (v:Int) (w:World) (hp:Ints w pv P) (hq:Ints w qv Q) (hlP:P.length≤500000) (hlQ:Q.length≤500000) :
  Calls Try.prog 53 #[pv,qv, .int .i64 v] w (ClRet w (res P Q v)):=by
 have HP:=Lib.hid hp
 have HQ:=Lib.hid hq
 obtain ⟨A1,c1,rfl,p1,p2,p3,p4⟩:=hp
 obtain ⟨A2,c2,rfl,q1,q2,q3,q4⟩:=hq
 unfold maxLen at p2 q2
 have HRP:=Lib.hid p4
 have HRQ:=Lib.hid q4
 have HXP:=Lib.hid p3
 have HXQ:=Lib.hid q3
 clear p3 p4 q3 q4
 obtain ⟨iI,hiI,hzI0,hzI1,hzI2⟩:=qD wV
 by_cases a1:v<0
 ·have d1:decide (v<0)=true:=by simpa using a1
  have HN:Hid (res P Q v=none):=by refine Lib.hid ?_;unfold res;rw [if_neg (by omega)]
  clear a1
  go_enter Try.func53,Try.ntmps53
  go_wp2_with fail
  go_ret2
  exact ClRet.no HN.out (zR _ _)
 have d1:decide (v<0)=false:=by simpa using a1
 by_cases a2:1024≤v
 ·have d2:decide ((1024:Int)≤v)=true:=by simpa using a2
  have HN:Hid (res P Q v=none):=by refine Lib.hid ?_;unfold res;rw [if_neg (by omega)]
  clear a1 a2
  go_enter Try.func53,Try.ntmps53
  go_wp2_with fail
  go_ret2
  exact ClRet.no HN.out (zR _ _)
 have d2:decide ((1024:Int)≤v)=false:=by simpa using a2
 by_cases h3:v+1∈P
 ·by_cases h4 : -(v+1)∈Q
  ·have HN:Hid (res P Q v=wJ (P.filter (rF (v+1))++Q.filter (rF (-(v+1))))):=by refine Lib.hid ?_;unfold res;rw [if_pos ⟨by omega,by omega,h3,h4⟩];rfl
   have e3:Hid (decide (v+1∈P)=true):=by refine Lib.hid ?_;simpa using h3
   have e4:Hid (decide (-(v+1)∈Q)=true):=by refine Lib.hid ?_;simpa using h4
   clear h3 h4
   go_enter Try.func53,Try.ntmps53
   go_wp2_with fail
   refine (dE _ P (v+1) w HP.out).mono ?_
   rintro e w' ⟨rfl,rfl⟩
   rw [e3.out]
   go_wp2_with fail
   refine (dE _ Q (-(v+1)) w HQ.out).mono ?_
   rintro e w' ⟨rfl,rfl⟩
   rw [e4.out]
   go_wp2_with fail
   go_loopw [8,36] (fun o i wr=>∃k:Nat,k≤P.length∧i = .int .i64 k∧Own wr w.heap.size o ((P.take k).filter (rF (v+1)))∧Below w.heap.size w wr) (fun _ i _=>P.length-(intOf i).toNat)
   case atStart=>exact ⟨0,by omega,rfl,⟨qE _ _ _ _,by simp⟩,zR _ _⟩
   case round =>
    obtain ⟨k,hk,rfl,how,hbw⟩:=hrel
    have HO:=Lib.hid how
    have HB:=Lib.hid hbw
    generalize hys:(P.take k).filter (rF (v+1))=ys at *
    have HYS:=Lib.hid hys
    have hyl:ys.length≤k:=by rw [←hys];exact qA (xD _ _) (vA _ _)
    obtain ⟨Ao,co,ho, -, -, -⟩:=wB how.1
    subst ho
    have hsz:=hbw.size
    clear hys how hbw
    by_cases hlt:k<P.length
    ·obtain ⟨x,hx⟩:∃x,P[k]? = some x:=⟨_,List.getElem?_eq_getElem hlt⟩
     obtain ⟨b1,o1,rfl,hb1,hc1⟩:=(HRP.out.keep HB.out).int hx
     have HX:=Lib.hid hx
     clear hx
     by_cases e:x=v+1
     ·have de:(x != v+1)=false:=by simp [e]
      have HF:=Lib.hid (lV (a:=v+1) HX.out e)
      clear e
      go_wp2_with fail
      go_roundw
      case rel=>exact ⟨k+1,by omega,by go_num,by rw [HF.out,HYS.out];exact HO.out,HB.out⟩
      case measure=>simp [intOf];omega
     ·have de:(x != v+1)=true:=by simp [e]
      have HF:=Lib.hid (lY (a:=v+1) HX.out e)
      clear e
      go_wp2_with (at_builtin;refine zW _ rfl _ _ 33 rfl w.heap.size 3 iI (.int .i64 0) 1 8 Try.underlying33 hiI hzI0 hzI1 hzI2 rfl (by decide) _ _ _ rfl (HO.out.1.alloc _) ⟨wr.heap.size,0,none⟩ 1 1 [.int .i64 x] rfl rfl ?a1 ?a2 ?a3 ?a4 ?a5 ?_)
      case a1=>exact wR wr _ _
      case a2=>intro u hu;simp at hu;subst hu;rfl
      case a3=>unfold maxLen;omega
      case a4=>omega
      case a5=>simp;omega
      intro v' w2 hown' hgrow _ hat
      have HO2:Hid (Own w2 w.heap.size v' ((P.take (k+1)).filter (rF (v+1)))):=by
       rw [HF.out,HYS.out]
       refine Lib.hid ⟨by simpa using hown',fun z hz => ?_⟩
       rcases zK.1 hz with hz|hz
       ·exact HO.out.2 z hz
       ·rw [zH] at hz;subst hz;exact HXP.out z (List.mem_of_getElem? HX.out)
      have HB2:Hid (Below w.heap.size w w2):=(HB.out.alloc hsz _).grown hgrow (by simp;omega) (fun g hg=>(HO.out.1.lt g hg).1)
      clear hown' hgrow hat
      go_wp2_with fail
      go_roundw
      case rel=>exact ⟨k+1,by omega,by go_num,HO2.out,HB2.out⟩
      case measure=>simp [intOf];omega
    ·have hys2:P.filter (rF (v+1))=ys:=by rw [←HYS.out,zU (by omega)]
     rw [hys2] at HN
     clear hys2
     go_wp2_with fail
     go_loopw [8,51] (fun o i wr=>∃k:Nat,k≤Q.length∧i = .int .i64 k∧Own wr w.heap.size o (ys++(Q.take k).filter (rF (-(v+1))))∧Below w.heap.size w wr) (fun _ i _=>Q.length-(intOf i).toNat)
     case atStart=>exact ⟨0,by omega,rfl,by simpa using HO.out,HB.out⟩
     case round =>
      obtain ⟨j,hj,rfl,how,hbw⟩:=hrel
      obtain ⟨wo,rfl⟩:∃wo:World,wo=wr:=⟨_,rfl⟩
      have HO3:=Lib.hid how
      have HB3:=Lib.hid hbw
      generalize hzs:ys++(Q.take j).filter (rF (-(v+1)))=zs at *
      have HZS:=Lib.hid hzs
      have hzl:zs.length≤ys.length+j:=by rw [←hzs,zJ];have:=qA (xD (rF (-(v+1))) (Q.take j)) (vA _ _);omega
      obtain ⟨Az,cz,hz, -, -, -⟩:=wB how.1
      subst hz
      have hsz3:=hbw.size
      clear hzs how hbw
      by_cases hjt:j<Q.length
      ·obtain ⟨x,hx⟩:∃x,Q[j]? = some x:=⟨_,List.getElem?_eq_getElem hjt⟩
       obtain ⟨b1,o1,rfl,hb1,hc1⟩:=(HRQ.out.keep HB3.out).int hx
       have HX:=Lib.hid hx
       clear hx
       by_cases e:x = -(v+1)
       ·have de:(x != -(v+1))=false:=by simp [e]
        have HF:=Lib.hid (lV (a := -(v+1)) HX.out e)
        clear e
        go_wp2_with fail
        go_roundw
        case rel=>exact ⟨j+1,by omega,by go_num,by rw [HF.out,HZS.out];exact HO3.out,HB3.out⟩
        case measure=>simp [intOf];omega
       ·have de:(x != -(v+1))=true:=by simp [e]
        have HF:=Lib.hid (lY (a := -(v+1)) HX.out e)
        clear e
        go_wp2_with (at_builtin;refine zW _ rfl _ _ 33 rfl w.heap.size 3 iI (.int .i64 0) 1 8 Try.underlying33 hiI hzI0 hzI1 hzI2 rfl (by decide) _ _ _ rfl (HO3.out.1.alloc _) ⟨wo.heap.size,0,none⟩ 1 1 [.int .i64 x] rfl rfl ?b1 ?b2 ?b3 ?b4 ?b5 ?_)
        case b1=>exact wR wo _ _
        case b2=>intro u hu;simp at hu;subst hu;rfl
        case b3=>unfold maxLen;omega
        case b4=>omega
        case b5=>simp;omega
        intro v' w2 hown' hgrow _ hat
        have HO2:Hid (Own w2 w.heap.size v' (ys++(Q.take (j+1)).filter (rF (-(v+1))))):=by
         rw [HF.out,←qB,HZS.out]
         refine Lib.hid ⟨by simpa using hown',fun z hz => ?_⟩
         rcases zK.1 hz with hz|hz
         ·exact HO3.out.2 z hz
         ·rw [zH] at hz;subst hz;exact HXQ.out z (List.mem_of_getElem? HX.out)
        have HB2:Hid (Below w.heap.size w w2):=(HB3.out.alloc hsz3 _).grown hgrow (by simp;omega) (fun g hg=>(HO3.out.1.lt g hg).1)
        clear hown' hgrow hat
        go_wp2_with fail
        go_roundw
        case rel=>exact ⟨j+1,by omega,by go_num,HO2.out,HB2.out⟩
        case measure=>simp [intOf];omega
      ·have hzs2:ys++Q.filter (rF (-(v+1)))=zs:=by rw [←HZS.out,zU (by omega)]
       rw [hzs2] at HN
       clear hzs2
       go_wp2_with fail
       refine (cP _ zs _ HO3.out.ints (by omega)).mono ?_
       intro e w3 hnr
       have hcl:=NormRet.cl (w:=w) hnr HN.out HB3.out
       clear hnr
       obtain ⟨v,rfl,h5,h6⟩:=hcl
       have H5:=Lib.hid h5
       have H6:=Lib.hid h6
       clear h5 h6
       go_wp2_with fail
       go_ret2
       exact ⟨v,rfl,H5.out,H6.out⟩
  ·have HN:Hid (res P Q v=none):=by refine Lib.hid ?_;unfold res;rw [if_neg (fun h=>h4 h.2.2.2)]
   have e3:Hid (decide (v+1∈P)=true):=by refine Lib.hid ?_;simpa using h3
   have e4:Hid (decide (-(v+1)∈Q)=false):=by refine Lib.hid ?_;simpa using h4
   clear h3 h4
   go_enter Try.func53,Try.ntmps53
   go_wp2_with fail
   refine (dE _ P (v+1) w HP.out).mono ?_
   rintro e w' ⟨rfl,rfl⟩
   rw [e3.out]
   go_wp2_with fail
   refine (dE _ Q (-(v+1)) w HQ.out).mono ?_
   rintro e w' ⟨rfl,rfl⟩
   rw [e4.out]
   go_wp2_with fail
   go_ret2
   exact ClRet.no HN.out (zR _ _)
 ·have HN:Hid (res P Q v=none):=by refine Lib.hid ?_;unfold res;rw [if_neg (fun h=>h3 h.2.2.1)]
  have e3:Hid (decide (v+1∈P)=false):=by refine Lib.hid ?_;simpa using h3
  clear h3
  go_enter Try.func53,Try.ntmps53
  go_wp2_with fail
  refine (dE _ P (v+1) w HP.out).mono ?_
  rintro e w' ⟨rfl,rfl⟩
  rw [e3.out]
  go_wp2_with fail
  go_ret2
  exact ClRet.no HN.out (zR _ _)
def RClsRet (w:World) (r:List (List Int) × Bool) (e:Ending) (w':World):Prop :=
 (r.2=true∧∃v,e = .returned (.tuple #[v, .int .i64 (-1)])∧ClsOk w r.1 v w')∨(r.2=false∧e = .returned (.tuple #[.slice none 0 0, .int .i64 (r.1.length:Int)])∧Below w.heap.size w w')
end Go.Proofs.Yticieifacalocaa
