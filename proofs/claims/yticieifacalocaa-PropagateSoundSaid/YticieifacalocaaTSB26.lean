/- Resolvent Has OwnStps StpW Refut -/
import Derived.Test.YticieifacalocaaTSB25
namespace Go.Proofs.Yticieifacalocaa
open Go.RowKit
set_option maxRecDepth 100000 in
theorem bF (v:Value) (zs:List Int) (x:Int) (w:World) (hv:Ints w v zs) :
  Calls Try.prog 75 #[v, .int .i64 x] w fun e w'=>e = .returned (.bool (decide (x∈zs)))∧w=w':=by
 obtain ⟨A,c,rfl,h1,h2,h3,hr⟩:=hv
 unfold maxLen at h2
 have HR:=Lib.hid hr
 clear h3 hr
 go_enter Try.func75,Try.ntmps75
 go_wp2_with fail
 go_loop [9] (fun i=>∃k:Nat,k≤zs.length∧i = .int .i64 k∧x∉zs.take k) (fun i=>zs.length-(intOf i).toNat)
 case atStart=>exact ⟨0,by omega,rfl,by simp⟩
 case round =>
  obtain ⟨k,hk,rfl,hno⟩:=hrel
  have HNO:=Lib.hid hno
  clear hno
  by_cases hlt:k<zs.length
  ·obtain ⟨y,hy⟩:∃y,zs[k]? = some y:=⟨_,List.getElem?_eq_getElem hlt⟩
   obtain ⟨b,o,rfl,hb,hc⟩:=HR.out.int hy
   have HY:=Lib.hid hy
   clear hy
   by_cases e:y=x
   ·have de:(y == x)=true:=by simp [e]
    have HIN:Hid (x∈zs):=e ▸ List.mem_of_getElem? HY.out
    clear e
    go_wp2_with fail
    go_ret
    exact ⟨fJ (by simp [HIN.out]),rfl⟩
   ·have de:(y == x)=false:=by simp [e]
    have HN:Hid (x∉zs.take (k+1)):=by
     refine Lib.hid ?_
     rw [wW HY.out]
     simp only [zI,zH,jK]
     exact ⟨HNO.out,fun h=>e h.symm⟩
    clear e
    go_wp2_with fail
    go_round
    case rel=>exact ⟨k+1,by omega,by go_num,HN.out⟩
    case measure=>simp [intOf];omega
  ·have HN:Hid (x∉zs):=by
    have h:=HNO.out
    rwa [zS (by omega)] at h
   go_wp2_with fail
   go_ret
   exact ⟨fJ (by simp [HN.out]),rfl⟩
def tL (a x:Int):Bool:=decide (x≠a)
theorem lY {l:List Int} {k:Nat} {x a:Int} (hk:l[k]? = some x) (h:x≠a):(l.take (k+1)).filter (tL a)=(l.take k).filter (tL a)++[x]:=by
 rw [wW hk,List.filter_append];simp [tL,h]
theorem nO {l:List Int} {k:Nat} {x a:Int} (hk:l[k]? = some x) (h:x=a):(l.take (k+1)).filter (tL a)=(l.take k).filter (tL a):=by
 rw [wW hk,List.filter_append];simp [tL,h]
set_option maxRecDepth 100000 in
set_option maxHeartbeats 2000000 in
theorem mF (pv qv:Value) (P Q:List Int) (v:Int) (w:World) (hp:Ints w pv P) (hq:Ints w qv Q) (hlP:P.length≤500000) (hlQ:Q.length≤500000) :
  Calls Try.prog 53 #[pv,qv, .int .i64 v] w (ClRet w (res P Q v)):=by
 have HP:=Lib.hid hp
 have HQ:=Lib.hid hq
 obtain ⟨A1,c1,rfl,p1,p2,p3,p4⟩:=hp
 obtain ⟨A2,c2,rfl,q1,q2,q3,q4⟩:=hq
 unfold maxLen at p2 q2
 have HRP:=Lib.hid p4
 have HRQ:=Lib.hid q4
 have HXP:=Lib.hid p3
 have HXQ:=Lib.hid q3
 clear p3 p4 q3 q4
 obtain ⟨iI,hiI,hzI0,hzI1,hzI2⟩:=qB gL
 by_cases a1:v<0
 ·have d1:decide (v<0)=true:=by simpa using a1
  have HN:Hid (res P Q v=none):=by refine Lib.hid ?_;unfold res;rw [if_neg (by omega)]
  clear a1
  go_enter Try.func53,Try.ntmps53
  go_wp2_with fail
  go_ret2
  exact ClRet.no HN.out (zO _ _)
 have d1:decide (v<0)=false:=by simpa using a1
 by_cases a2:1024≤v
 ·have d2:decide ((1024:Int)≤v)=true:=by simpa using a2
  have HN:Hid (res P Q v=none):=by refine Lib.hid ?_;unfold res;rw [if_neg (by omega)]
  clear a1 a2
  go_enter Try.func53,Try.ntmps53
  go_wp2_with fail
  go_ret2
  exact ClRet.no HN.out (zO _ _)
 have d2:decide ((1024:Int)≤v)=false:=by simpa using a2
 by_cases h3:v+1∈P
 ·by_cases h4 : -(v+1)∈Q
  ·have HN:Hid (res P Q v=gB (P.filter (tL (v+1))++Q.filter (tL (-(v+1))))):=by refine Lib.hid ?_;unfold res;rw [if_pos ⟨by omega,by omega,h3,h4⟩];rfl
   have e3:Hid (decide (v+1∈P)=true):=by refine Lib.hid ?_;simpa using h3
   have e4:Hid (decide (-(v+1)∈Q)=true):=by refine Lib.hid ?_;simpa using h4
   clear h3 h4
   go_enter Try.func53,Try.ntmps53
   go_wp2_with fail
   refine (bF _ P (v+1) w HP.out).mono ?_
   rintro e w' ⟨rfl,rfl⟩
   rw [e3.out]
   go_wp2_with fail
   refine (bF _ Q (-(v+1)) w HQ.out).mono ?_
   rintro e w' ⟨rfl,rfl⟩
   rw [e4.out]
   go_wp2_with fail
   go_loopw [8,36] (fun o i wr=>∃k:Nat,k≤P.length∧i = .int .i64 k∧Own wr w.heap.size o ((P.take k).filter (tL (v+1)))∧Below w.heap.size w wr) (fun _ i _=>P.length-(intOf i).toNat)
   case atStart=>exact ⟨0,by omega,rfl,⟨zX _ _ _ _,by simp⟩,zO _ _⟩
   case round =>
    obtain ⟨k,hk,rfl,how,hbw⟩:=hrel
    have HO:=Lib.hid how
    have HB:=Lib.hid hbw
    generalize hys:(P.take k).filter (tL (v+1))=ys at *
    have HYS:=Lib.hid hys
    have hyl:ys.length≤k:=by rw [←hys];exact qC (xC _ _) (kE _ _)
    obtain ⟨Ao,co,ho, -, -, -⟩:=wS how.1
    subst ho
    have hsz:=hbw.size
    clear hys how hbw
    by_cases hlt:k<P.length
    ·obtain ⟨x,hx⟩:∃x,P[k]? = some x:=⟨_,List.getElem?_eq_getElem hlt⟩
     obtain ⟨b1,o1,rfl,hb1,hc1⟩:=(HRP.out.keep HB.out).int hx
     have HX:=Lib.hid hx
     clear hx
     by_cases e:x=v+1
     ·have de:(x != v+1)=false:=by simp [e]
      have HF:=Lib.hid (nO (a:=v+1) HX.out e)
      clear e
      go_wp2_with fail
      go_roundw
      case rel=>exact ⟨k+1,by omega,by go_num,by rw [HF.out,HYS.out];exact HO.out,HB.out⟩
      case measure=>simp [intOf];omega
     ·have de:(x != v+1)=true:=by simp [e]
      have HF:=Lib.hid (lY (a:=v+1) HX.out e)
      clear e
      go_wp2_with (at_builtin;refine zY _ rfl _ _ 33 rfl w.heap.size 3 iI (.int .i64 0) 1 8 Try.underlying33 hiI hzI0 hzI1 hzI2 rfl (by decide) _ _ _ rfl (HO.out.1.alloc _) ⟨wr.heap.size,0,none⟩ 1 1 [.int .i64 x] rfl rfl ?a1 ?a2 ?a3 ?a4 ?a5 ?_)
      case a1=>exact gP wr _ _
      case a2=>intro u hu;simp at hu;subst hu;rfl
      case a3=>unfold maxLen;omega
      case a4=>omega
      case a5=>simp;omega
      intro v' w2 hown' hgrow _ hat
      have HO2:Hid (Own w2 w.heap.size v' ((P.take (k+1)).filter (tL (v+1)))):=by
       rw [HF.out,HYS.out]
       refine Lib.hid ⟨by simpa using hown',fun z hz => ?_⟩
       rcases zI.1 hz with hz|hz
       ·exact HO.out.2 z hz
       ·rw [zH] at hz;subst hz;exact HXP.out z (List.mem_of_getElem? HX.out)
      have HB2:Hid (Below w.heap.size w w2):=(HB.out.alloc hsz _).grown hgrow (by simp;omega) (fun g hg=>(HO.out.1.lt g hg).1)
      clear hown' hgrow hat
      go_wp2_with fail
      go_roundw
      case rel=>exact ⟨k+1,by omega,by go_num,HO2.out,HB2.out⟩
      case measure=>simp [intOf];omega
    ·have hys2:P.filter (tL (v+1))=ys:=by rw [←HYS.out,zS (by omega)]
     rw [hys2] at HN
     clear hys2
     go_wp2_with fail
     go_loopw [8,51] (fun o i wr=>∃k:Nat,k≤Q.length∧i = .int .i64 k∧Own wr w.heap.size o (ys++(Q.take k).filter (tL (-(v+1))))∧Below w.heap.size w wr) (fun _ i _=>Q.length-(intOf i).toNat)
     case atStart=>exact ⟨0,by omega,rfl,by simpa using HO.out,HB.out⟩
     case round =>
      obtain ⟨j,hj,rfl,how,hbw⟩:=hrel
      obtain ⟨wo,rfl⟩:∃wo:World,wo=wr:=⟨_,rfl⟩
      have HO3:=Lib.hid how
      have HB3:=Lib.hid hbw
      generalize hzs:ys++(Q.take j).filter (tL (-(v+1)))=zs at *
      have HZS:=Lib.hid hzs
      have hzl:zs.length≤ys.length+j:=by rw [←hzs,zJ];have:=qC (xC (tL (-(v+1))) (Q.take j)) (kE _ _);omega
      obtain ⟨Az,cz,hz, -, -, -⟩:=wS how.1
      subst hz
      have hsz3:=hbw.size
      clear hzs how hbw
      by_cases hjt:j<Q.length
      ·obtain ⟨x,hx⟩:∃x,Q[j]? = some x:=⟨_,List.getElem?_eq_getElem hjt⟩
       obtain ⟨b1,o1,rfl,hb1,hc1⟩:=(HRQ.out.keep HB3.out).int hx
       have HX:=Lib.hid hx
       clear hx
       by_cases e:x = -(v+1)
       ·have de:(x != -(v+1))=false:=by simp [e]
        have HF:=Lib.hid (nO (a := -(v+1)) HX.out e)
        clear e
        go_wp2_with fail
        go_roundw
        case rel=>exact ⟨j+1,by omega,by go_num,by rw [HF.out,HZS.out];exact HO3.out,HB3.out⟩
        case measure=>simp [intOf];omega
       ·have de:(x != -(v+1))=true:=by simp [e]
        have HF:=Lib.hid (lY (a := -(v+1)) HX.out e)
        clear e
        go_wp2_with (at_builtin;refine zY _ rfl _ _ 33 rfl w.heap.size 3 iI (.int .i64 0) 1 8 Try.underlying33 hiI hzI0 hzI1 hzI2 rfl (by decide) _ _ _ rfl (HO3.out.1.alloc _) ⟨wo.heap.size,0,none⟩ 1 1 [.int .i64 x] rfl rfl ?b1 ?b2 ?b3 ?b4 ?b5 ?_)
        case b1=>exact gP wo _ _
        case b2=>intro u hu;simp at hu;subst hu;rfl
        case b3=>unfold maxLen;omega
        case b4=>omega
        case b5=>simp;omega
        intro v' w2 hown' hgrow _ hat
        have HO2:Hid (Own w2 w.heap.size v' (ys++(Q.take (j+1)).filter (tL (-(v+1))))):=by
         rw [HF.out,←qH,HZS.out]
         refine Lib.hid ⟨by simpa using hown',fun z hz => ?_⟩
         rcases zI.1 hz with hz|hz
         ·exact HO3.out.2 z hz
         ·rw [zH] at hz;subst hz;exact HXQ.out z (List.mem_of_getElem? HX.out)
        have HB2:Hid (Below w.heap.size w w2):=(HB3.out.alloc hsz3 _).grown hgrow (by simp;omega) (fun g hg=>(HO3.out.1.lt g hg).1)
        clear hown' hgrow hat
        go_wp2_with fail
        go_roundw
        case rel=>exact ⟨j+1,by omega,by go_num,HO2.out,HB2.out⟩
        case measure=>simp [intOf];omega
      ·have hzs2:ys++Q.filter (tL (-(v+1)))=zs:=by rw [←HZS.out,zS (by omega)]
       rw [hzs2] at HN
       clear hzs2
       go_wp2_with fail
       refine (aV _ zs _ HO3.out.ints (by omega)).mono ?_
       intro e w3 hnr
       have hcl:=NormRet.cl (w:=w) hnr HN.out HB3.out
       clear hnr
       obtain ⟨v,rfl,h5,h6⟩:=hcl
       have H5:=Lib.hid h5
       have H6:=Lib.hid h6
       clear h5 h6
       go_wp2_with fail
       go_ret2
       exact ⟨v,rfl,H5.out,H6.out⟩
  ·have HN:Hid (res P Q v=none):=by refine Lib.hid ?_;unfold res;rw [if_neg (fun h=>h4 h.2.2.2)]
   have e3:Hid (decide (v+1∈P)=true):=by refine Lib.hid ?_;simpa using h3
   have e4:Hid (decide (-(v+1)∈Q)=false):=by refine Lib.hid ?_;simpa using h4
   clear h3 h4
   go_enter Try.func53,Try.ntmps53
   go_wp2_with fail
   refine (bF _ P (v+1) w HP.out).mono ?_
   rintro e w' ⟨rfl,rfl⟩
   rw [e3.out]
   go_wp2_with fail
   refine (bF _ Q (-(v+1)) w HQ.out).mono ?_
   rintro e w' ⟨rfl,rfl⟩
   rw [e4.out]
   go_wp2_with fail
   go_ret2
   exact ClRet.no HN.out (zO _ _)
 ·have HN:Hid (res P Q v=none):=by refine Lib.hid ?_;unfold res;rw [if_neg (fun h=>h3 h.2.2.1)]
  have e3:Hid (decide (v+1∈P)=false):=by refine Lib.hid ?_;simpa using h3
  clear h3
  go_enter Try.func53,Try.ntmps53
  go_wp2_with fail
  refine (bF _ P (v+1) w HP.out).mono ?_
  rintro e w' ⟨rfl,rfl⟩
  rw [e3.out]
  go_wp2_with fail
  go_ret2
  exact ClRet.no HN.out (zO _ _)
set_option maxRecDepth 100000 in
theorem has_any (v:Value) (zs:List Int) (x:Int) (w:World) (hv:Ints w v zs) :
  Calls Try.prog 52 #[v, .int .i64 x] w fun e w'=>e = .returned (.bool (decide (x∈zs)))∧w=w':=by
 obtain ⟨A,c,rfl,h1,h2,h3,hr⟩:=hv
 unfold maxLen at h2
 have HR:=Lib.hid hr
 clear h3 hr
 go_enter Try.func52,Try.ntmps52
 go_wp2_with fail
 go_loop [9] (fun i=>∃k:Nat,k≤zs.length∧i = .int .i64 k∧x∉zs.take k) (fun i=>zs.length-(intOf i).toNat)
 case atStart=>exact ⟨0,by omega,rfl,by simp⟩
 case round =>
  obtain ⟨k,hk,rfl,hno⟩:=hrel
  have HNO:=Lib.hid hno
  clear hno
  by_cases hlt:k<zs.length
  ·obtain ⟨y,hy⟩:∃y,zs[k]? = some y:=⟨_,List.getElem?_eq_getElem hlt⟩
   obtain ⟨b,o,rfl,hb,hc⟩:=HR.out.int hy
   have HY:=Lib.hid hy
   clear hy
   by_cases e:y=x
   ·have de:(x == y)=true:=by simp [e]
    have HIN:Hid (x∈zs):=e ▸ List.mem_of_getElem? HY.out
    clear e
    go_wp2_with fail
    go_ret
    exact ⟨fJ (by simp [HIN.out]),rfl⟩
   ·have de:(x == y)=false:=by simp;exact fun h=>e h.symm
    have HN:Hid (x∉zs.take (k+1)):=by
     refine Lib.hid ?_
     rw [wW HY.out]
     simp only [zI,zH,jK]
     exact ⟨HNO.out,fun h=>e h.symm⟩
    clear e
    go_wp2_with fail
    go_round
    case rel=>exact ⟨k+1,by omega,by go_num,HN.out⟩
    case measure=>simp [intOf];omega
  ·have HN:Hid (x∉zs):=by
    have h:=HNO.out
    rwa [zS (by omega)] at h
   go_wp2_with fail
   go_ret
   exact ⟨fJ (by simp [HN.out]),rfl⟩
def OwnStps (w:World) (base:Nat) (P:Nat→Prop) (v:Value) (ps:List (Stp × Value)):Prop :=
 w.ownsRow base 91 6 v ps.length (ps.flatMap Stp.cells)∧∀q∈ps,IntsO w (fun b=>P b∧some b≠v.ownBlock) q.2 q.1.lits∧q.1.ok
section
variable {w w':World} {base:Nat} {P Q:Nat→Prop} {v:Value} {ps:List (Stp × Value)}
theorem OwnStps.nil (w:World) (base:Nat) (P:Nat→Prop):OwnStps w base P (.slice none 0 0) []:=⟨zX _ _ _ _,by simp⟩
theorem OwnStps.stps (h:OwnStps w base P v ps):Stps w v (ps.map (·.1)):=by
 obtain ⟨A,c,h1,h2,h3,h4⟩:=wS h.1
 exact ⟨A,c,ps,rfl,h1,h2,h3,h4,fun q hq=>⟨(h.2 q hq).1.ints,(h.2 q hq).2⟩⟩
theorem OwnStps.keep (h:OwnStps w base P v ps) (hb:Below w.heap.size w w'):OwnStps w' base P v ps:=⟨bB h.1 hb,fun q hq=>⟨(h.2 q hq).1.keep hb,(h.2 q hq).2⟩⟩
theorem OwnStps.mono (h:OwnStps w base P v ps) (hP:∀b,b<w.heap.size→P b→Q b):OwnStps w base Q v ps:=⟨h.1,fun q hq=>⟨(h.2 q hq).1.mono fun b hb hp=>⟨hP b hb hp.1,hp.2⟩,(h.2 q hq).2⟩⟩
theorem OwnStps.grown {row:Option Nat} (h:OwnStps w base P v ps) (hg:w.grownBy w' row) (hv:v.ownBlock=none∨v.ownBlock≠row) (hne:∀b,P b→some b≠row):OwnStps w' base P v ps :=
 ⟨h.1.kept hg hv,fun q hq=>⟨(h.2 q hq).1.grown hg fun b hb=>hne b hb.1,(h.2 q hq).2⟩⟩
theorem OwnStps.push {v':Value} {o:Obj} {s:Stp} {lv:Value} (h:OwnStps w base P v ps) (hu:IntsO w (fun b=>P b∧some b≠v.ownBlock) lv s.lits) (hs:s.ok)
  (ho:w'.ownsRow base 91 6 v' (ps.length+1) (ps.flatMap Stp.cells++Stp.cells (s,lv))) (hg:(w.alloc o).grownBy w' v.ownBlock) (hat:v'.ownBlock=v.ownBlock∨v'.ownBlock=some (w.alloc o).heap.size):OwnStps w' base P v' (ps++[(s,lv)]):=by
 have key:∀{u xs},IntsO w (fun b=>P b∧some b≠v.ownBlock) u xs→IntsO w' (fun b=>P b∧some b≠v'.ownBlock) u xs:=by
  intro u xs h
  refine IntsO.mono (P:=fun b=>(P b∧some b≠v.ownBlock)∧b<w.heap.size) ?_ fun b _ hb=>⟨hb.1.1,?_⟩
  ·have h1:IntsO w (fun b=>(P b∧some b≠v.ownBlock)∧b<w.heap.size) u xs:=h.mono fun b h1 h2=>⟨h2,h1⟩
   exact (h1.grown (gY w o) (fun b _=>by simp)).grown hg fun b hb=>hb.1.2
  ·rcases hat with e|e<;>rw [e]
   ·exact hb.1.2
   ·simp;have:=hb.2;omega
 refine ⟨by simpa using ho,fun q hq => ?_⟩
 rcases zI.1 hq with hq|hq
 ·exact ⟨key (h.2 q hq).1,(h.2 q hq).2⟩
 ·rw [zH] at hq;subst hq;exact ⟨key hu,hs⟩
end
theorem info_step:(Try.prog.info? 91).map (fun i=>(i.zero,i.size,i.bytes))=some (some (.agg #[.int .i64 0, .int .i64 0, .slice none 0 0, .int .i64 0, .int .i64 0, .int .i64 0]),6,64):=by kernel_rfl
def zT:Value := .agg #[.int .i64 0, .int .i64 0, .slice none 0 0, .int .i64 0, .int .i64 0, .int .i64 0]
structure RF (w0 wr:World) (g gv:Nat) (f:Form) (fa fc sv cv:Value) (val:List Int) (ps:List (Stp × Value)) (us:List Value) (cs:List (List Int)):Prop where
 b:Blk wr g 72 #[.int .i64 f.ints, .int .i64 f.bools,fa,fc, .slice (some ⟨gv,0,none⟩) val.length val.length,sv,cv, .slice none 0 0, .slice none 0 0]
 bv:Blk wr gv 3 (dL val)
 os:OwnStps wr (g+1) (fun b=>g+1≤b∧some b≠cv.ownBlock) sv ps
 om:OwnMat wr (g+1) (fun b=>g+1≤b∧some b≠sv.ownBlock) cv us cs
 ap:Apart sv cv
 lo:w0.heap.size≤gv
 lt:gv<g
 hi:g+1≤wr.heap.size
 bl:Below w0.heap.size w0 wr
section
variable {w0 wr w':World} {g gv:Nat} {f:Form} {fa fc sv cv:Value} {val:List Int} {ps:List (Stp × Value)} {us:List Value} {cs:List (List Int)}
theorem RF.keep (h:RF w0 wr g gv f fa fc sv cv val ps us cs) (hb:Below wr.heap.size wr w'):RF w0 w' g gv f fa fc sv cv val ps us cs :=
 ⟨h.b.keep hb,h.bv.keep hb,h.os.keep hb,h.om.keep hb,h.ap,h.lo,h.lt,qC h.hi hb.size,h.bl.trans (hb.mono h.bl.size)⟩
def dI (g:Nat) (sv cv:Value) (b:Nat):Prop:=g+1≤b∧some b≠sv.ownBlock∧some b≠cv.ownBlock
theorem RF.steps {sv' lv:Value} {s:Stp} {o:Obj} (h:RF w0 wr g gv f fa fc sv cv val ps us cs) (hu:IntsO wr (dI g sv cv) lv s.lits) (hs:s.ok)
  (ho:w'.ownsRow (g+1) 91 6 sv' (ps.length+1) (ps.flatMap Stp.cells++Stp.cells (s,lv))) (hg:(wr.alloc o).grownBy w' sv.ownBlock) (hat:sv'.ownBlock=sv.ownBlock∨sv'.ownBlock=some (wr.alloc o).heap.size) :
  RF w0 (w'.setCell ⟨g,5,none⟩ sv') g gv f fa fc sv' cv val (ps++[(s,lv)]) us cs∧Blk w' g 72 #[.int .i64 f.ints, .int .i64 f.bools,fa,fc, .slice (some ⟨gv,0,none⟩) val.length val.length,sv,cv, .slice none 0 0, .slice none 0 0] ∧
  ∀u xs,IntsO wr (dI g sv cv) u xs→IntsO (w'.setCell ⟨g,5,none⟩ sv') (dI g sv' cv) u xs:=by
 have hlt:∀k,sv.ownBlock=some k→g+1≤k∧k<wr.heap.size:=fun k e=>h.os.1.lt k e
 have hltc:∀k,cv.ownBlock=some k→g+1≤k∧k<wr.heap.size:=fun k e=>h.om.1.lt k e
 have glt:=h.lt
 have hb2:Blk w' g 72 #[.int .i64 f.ints, .int .i64 f.bools,fa,fc, .slice (some ⟨gv,0,none⟩) val.length val.length,sv,cv, .slice none 0 0, .slice none 0 0] :=
  (h.b.alloc o).grown hg fun e=>by have:=hlt _ e.symm;omega
 have hset:w'.grownBy (w'.setCell ⟨g,5,none⟩ sv') (some g):=wR _ _ _ _
 have hos:=h.os.push (s:=s) (lv:=lv) (hu.mono fun b _ hb=>⟨⟨hb.1,hb.2.2⟩,hb.2.1⟩) hs ho hg hat
 have hom:OwnMat w' (g+1) (fun b=>g+1≤b∧some b≠sv'.ownBlock) cv us cs:=by
  have h1:OwnMat wr (g+1) (fun b=>(g+1≤b∧some b≠sv.ownBlock)∧b<wr.heap.size) cv us cs:=h.om.mono fun b hb hp=>⟨hp,hb⟩
  refine ((h1.grown (gY wr o) (fZ _) fun b _=>by simp).grown hg h.ap.symm.ne fun b hb=>hb.1.2).mono fun b _ hb=>⟨hb.1.1,?_⟩
  rcases hat with e|e<;>rw [e]
  ·exact hb.1.2
  ·simp;have:=hb.2;omega
 have hkey:∀u xs,IntsO wr (dI g sv cv) u xs→IntsO (w'.setCell ⟨g,5,none⟩ sv') (dI g sv' cv) u xs:=by
  intro u xs hx
  have h1:IntsO wr (fun b=>dI g sv cv b∧b<wr.heap.size) u xs:=hx.mono fun b hb hp=>⟨hp,hb⟩
  refine (((h1.grown (gY wr o) fun b _=>by simp).grown hg fun b hb=>hb.1.2.1).grown hset fun b hb=>by simp;have:=hb.1.1;omega).mono fun b _ hb=>⟨hb.1.1,?_,hb.1.2.2⟩
  rcases hat with e|e<;>rw [e]
  ·exact hb.1.2.1
  ·simp;have:=hb.2;omega
 refine ⟨⟨hb2.set_ 5 sv',((h.bv.alloc o).grown hg fun e=>by have:=hlt _ e.symm;omega).grown hset (by simp;omega),hos.grown hset (dW hos.1 (by omega)) fun b hb=>by simp;omega,hom.grown hset (dW hom.1 (by omega)) fun b hb=>by simp;omega,?_,h.lo,h.lt,?_,?_⟩,hb2,hkey⟩
 ·exact (h.ap.symm.append (fun k e=>by have:=hltc k e;simp;omega) hat).symm
 ·have h1:=hg.size;have h2:=h.hi;simp at h1 ⊢;omega
 ·have hl:=h.lo
  exact ((h.bl.alloc h.bl.size o).grown hg (by have:=h.bl.size;simp;omega) fun k e=>by have:=hlt k e;omega).grown hset (by have h1:=hg.size;have h2:=h.bl.size;simp at h1;omega) fun k e=>by injection e with e;omega
theorem RF.clauses {cv' u:Value} {c:List Int} {o:Obj} (h:RF w0 wr g gv f fa fc sv cv val ps us cs) (hu:IntsO wr (dI g sv cv) u c)
  (ho:w'.ownsRow (g+1) 33 1 cv' (us.length+1) (us++[u])) (hg:(wr.alloc o).grownBy w' cv.ownBlock) (hat:cv'.ownBlock=cv.ownBlock∨cv'.ownBlock=some (wr.alloc o).heap.size) :
  RF w0 (w'.setCell ⟨g,6,none⟩ cv') g gv f fa fc sv cv' val ps (us++[u]) (cs++[c])∧Blk w' g 72 #[.int .i64 f.ints, .int .i64 f.bools,fa,fc, .slice (some ⟨gv,0,none⟩) val.length val.length,sv,cv, .slice none 0 0, .slice none 0 0]:=by
 have hlt:∀k,cv.ownBlock=some k→g+1≤k∧k<wr.heap.size:=fun k e=>h.om.1.lt k e
 have hlts:∀k,sv.ownBlock=some k→g+1≤k∧k<wr.heap.size:=fun k e=>h.os.1.lt k e
 have glt:=h.lt
 have hb2:Blk w' g 72 #[.int .i64 f.ints, .int .i64 f.bools,fa,fc, .slice (some ⟨gv,0,none⟩) val.length val.length,sv,cv, .slice none 0 0, .slice none 0 0] :=
  (h.b.alloc o).grown hg fun e=>by have:=hlt _ e.symm;omega
 have hset:w'.grownBy (w'.setCell ⟨g,6,none⟩ cv') (some g):=wR _ _ _ _
 have hom:=h.om.push (xs:=c) (hu.mono fun b _ hb=>⟨⟨hb.1,hb.2.1⟩,hb.2.2⟩) ho hg hat
 have hos:OwnStps w' (g+1) (fun b=>g+1≤b∧some b≠cv'.ownBlock) sv ps:=by
  have h1:OwnStps wr (g+1) (fun b=>(g+1≤b∧some b≠cv.ownBlock)∧b<wr.heap.size) sv ps:=h.os.mono fun b hb hp=>⟨hp,hb⟩
  refine ((h1.grown (gY wr o) (fZ _) fun b _=>by simp).grown hg h.ap.ne fun b hb=>hb.1.2).mono fun b _ hb=>⟨hb.1.1,?_⟩
  rcases hat with e|e<;>rw [e]
  ·exact hb.1.2
  ·simp;have:=hb.2;omega
 refine ⟨⟨hb2.set_ 6 cv',((h.bv.alloc o).grown hg fun e=>by have:=hlt _ e.symm;omega).grown hset (by simp;omega),hos.grown hset (dW hos.1 (by omega)) fun b hb=>by simp;omega,hom.grown hset (dW hom.1 (by omega)) fun b hb=>by simp;omega,?_,h.lo,h.lt,?_,?_⟩,hb2⟩
 ·exact h.ap.append (fun k e=>by have:=hlts k e;simp;omega) hat
 ·have h1:=hg.size;have h2:=h.hi;simp at h1 ⊢;omega
 ·have hl:=h.lo
  exact ((h.bl.alloc h.bl.size o).grown hg (by have:=h.bl.size;simp;omega) fun k e=>by have:=hlt k e;omega).grown hset (by have h1:=hg.size;have h2:=h.bl.size;simp at h1;omega) fun k e=>by injection e with e;omega
def AddRet (w0:World) (g gv:Nat) (f:Form) (fa fc:Value) (val:List Int) (ps:List (Stp × Value)) (us:List Value) (cs:List (List Int)) (n:Nat) (e:Ending) (w':World):Prop :=
 ∃sv' cv',e = .returned (.int .i64 (n:Int))∧RF w0 w' g gv f fa fc sv' cv' val ps us cs
set_option maxRecDepth 100000 in
set_option maxHeartbeats 2000000 in
theorem mM (s:Stp) (As Au:Option Addr) (cs' cu:Nat) (c:List Int) (h:RF w0 wr g gv f fa fc sv cv val ps us cs) (hl:IntsO wr (dI g sv cv) (.slice As s.lits.length cs') s.lits) (hs:s.ok) (hc:IntsO wr (dI g sv cv) (.slice Au c.length cu) c) (hp:ps.length≤1000000) (hu:us.length≤1000000) :
  Calls Try.prog 54 #[.pointer (some ⟨g,0,none⟩), .agg #[.int .i64 s.kind, .int .i64 s.index, .slice As s.lits.length cs', .int .i64 s.p, .int .i64 s.q, .int .i64 s.var], .slice Au c.length cu] wr
   (AddRet w0 g gv f fa fc val (ps++[(s, .slice As s.lits.length cs')]) (us++[.slice Au c.length cu]) (cs++[c]) ps.length):=by
 obtain ⟨iT,hiT,hzT0,hzT1,hzT2⟩:=qB info_step
 obtain ⟨iS,hiS,hzS0,hzS1,hzS2⟩:=qB eP
 have HC:=Lib.hid hc
 have HL:=Lib.hid hl
 have HS:=Lib.hid hs
 obtain ⟨Ax,cx,hx, -, -, -⟩:=wS h.os.1
 subst hx
 obtain ⟨Ay,cy,hy, -, -, -⟩:=wS h.om.1
 subst hy
 have H1:Hid (RF w0 (wr.alloc (.cells #[.int .i64 s.kind, .int .i64 s.index, .slice As s.lits.length cs', .int .i64 s.p, .int .i64 s.q, .int .i64 s.var] 91)) g gv f fa fc (.slice Ax ps.length cx) (.slice Ay us.length cy) val ps us cs):=h.keep ((zO _ _).alloc (Nat.le_refl _) _)
 have B1:=Blk.new wr 91 #[.int .i64 s.kind, .int .i64 s.index, .slice As s.lits.length cs', .int .i64 s.p, .int .i64 s.q, .int .i64 s.var]
 have hsz:(wr.alloc (.cells #[.int .i64 s.kind, .int .i64 s.index, .slice As s.lits.length cs', .int .i64 s.p, .int .i64 s.q, .int .i64 s.var] 91)).heap.size=wr.heap.size+1:=by simp
 have hbW:Below wr.heap.size wr (wr.alloc (.cells #[.int .i64 s.kind, .int .i64 s.index, .slice As s.lits.length cs', .int .i64 s.p, .int .i64 s.q, .int .i64 s.var] 91)):=(zO _ _).alloc (Nat.le_refl _) _
 clear hc hl hs
 go_enter Try.func54,Try.ntmps54
 go_wp2_with fail
 generalize wr.alloc (.cells #[.int .i64 s.kind, .int .i64 s.index, .slice As s.lits.length cs', .int .i64 s.p, .int .i64 s.q, .int .i64 s.var] 91)=W at *
 have r0:=B1.cell 0
 have r1:=B1.cell 1
 have r2:=B1.cell 2
 have r3:=B1.cell 3
 have r4:=B1.cell 4
 have r5:=B1.cell 5
 have q5:=H1.out.b.cell 5
 simp only [zA,zB,zC] at r0 r1 r2 r3 r4 r5 q5
 have HBW:=Lib.hid hbW
 have HSZ:=Lib.hid hsz
 have HLW:Hid (IntsO W (dI g (.slice Ax ps.length cx) (.slice Ay us.length cy)) (.slice As s.lits.length cs') s.lits):=HL.out.keep HBW.out
 have HN:Hid (∀j u,[.int .i64 s.kind, .int .i64 s.index, .slice As s.lits.length cs', .int .i64 s.p, .int .i64 s.q, .int .i64 s.var][j]? = some u→(W.alloc (.cells #[.int .i64 s.kind, .int .i64 s.index, .slice As s.lits.length cs', .int .i64 s.p, .int .i64 s.q, .int .i64 s.var] 91)).cell? ((⟨W.heap.size,0,none⟩:Addr).add j)=some u):=gQ W _ [.int .i64 s.kind, .int .i64 s.index, .slice As s.lits.length cs', .int .i64 s.p, .int .i64 s.q, .int .i64 s.var] rfl
 have HO:Hid (∀u∈([.int .i64 s.kind, .int .i64 s.index, .slice As s.lits.length cs', .int .i64 s.p, .int .i64 s.q, .int .i64 s.var]:List Value),u.oneCell'=true):=by
  refine Lib.hid ?_
  intro u hu;simp at hu;rcases hu with rfl|rfl|rfl|rfl|rfl|rfl<;>rfl
 have H63:Hid (ps.length+1≤maxLen):=by refine Lib.hid ?_;unfold maxLen;omega
 have HBY:Hid ((ps.length+1) * 64≤140737488355328):=by refine Lib.hid ?_;omega
 have HBA:Hid (g+1≤(W.alloc (.cells #[.int .i64 s.kind, .int .i64 s.index, .slice As s.lits.length cs', .int .i64 s.p, .int .i64 s.q, .int .i64 s.var] 91)).heap.size):=by
  refine Lib.hid ?_
  have:=H1.out.hi
  simp at this ⊢;omega
 have q5a:=(H1.out.b.alloc (.cells #[.int .i64 s.kind, .int .i64 s.index, .slice As s.lits.length cs', .int .i64 s.p, .int .i64 s.q, .int .i64 s.var] 91)).cell 5
 simp only [zA,zB,zC] at q5a
 clear hbW hsz B1
 go_region_law (refine wT rfl (.tmp 11) (.tmp 13) 31 rfl (g+1) 91 iT zT 6 64 Try.underlying31 hiT hzT0 hzT1 hzT2 rfl (by decide) (.slice Ax ps.length cx) ps.length (ps.flatMap Stp.cells) (by simp [Act.eval]) (H1.out.os.1.alloc _).drew ⟨W.heap.size,0,none⟩ 1 1 [.int .i64 s.kind, .int .i64 s.index, .slice As s.lits.length cs', .int .i64 s.p, .int .i64 s.q, .int .i64 s.var] (by simp [Act.eval]) rfl HN.out HO.out H63.out HBY.out HBA.out ?_;intro v' w2 hown hg hat;obtain ⟨A',c',hv', -, -, -⟩:=wS hown;subst hv';obtain ⟨hrf,hb2,hky⟩:=H1.out.steps (s:=s) HLW.out HS.out hown (show (W.alloc _).grownBy w2 _ from ⟨hg.os,hg.tape,hg.output,hg.size,hg.block⟩) hat;have HRF:=Lib.hid hrf;have HCW:=Lib.hid (hky _ _ (HC.out.keep HBW.out));have c5:=hb2.cell 5;have z5:=hb2.frozen 5;simp only [zA,zB,zC] at c5;clear hrf hb2 hky hown hg hat)
 all_goals
  clear r0 r1 r2 r3 r4 r5 q5 q5a c5 z5 HN HO H63 HBY HBA HLW
  generalize w2.setCell ⟨g,5,none⟩ (.slice A' (ps.length+1) c')=w3 at *
  have q6:=HRF.out.b.cell 6
  simp only [zA,zB,zC] at q6
  have HO1:Hid (∀u∈([.slice Au c.length cu]:List Value),u.oneCell'=true):=by
   refine Lib.hid ?_
   intro u hu;simp at hu;subst hu;rfl
  have HM1:Hid (us.length+1≤maxLen):=by refine Lib.hid ?_;unfold maxLen;omega
  have HM2:Hid ((us.length+1) * 24≤140737488355328):=by refine Lib.hid ?_;omega
  have HM3:Hid (g+1≤(w3.alloc (.cells #[.slice Au c.length cu] 33)).heap.size):=by
   refine Lib.hid ?_
   have:=HRF.out.hi
   simp;omega
  go_wp2_with (at_builtin;refine zY _ rfl _ _ 27 rfl (g+1) 33 iS (.slice none 0 0) 1 24 Try.underlying27 hiS hzS0 hzS1 hzS2 rfl (by decide) _ _ _ rfl (HRF.out.om.1.alloc _) ⟨w3.heap.size,0,none⟩ 1 1 [.slice Au c.length cu] rfl rfl (gP w3 _ _) HO1.out HM1.out HM2.out HM3.out ?_;intro v4 w4 hown hg _ hat;obtain ⟨A4,c4,hv4, -, -, -⟩:=wS hown;subst hv4;obtain ⟨hrf,hb4⟩:=HRF.out.clauses HCW.out hown hg hat;have HR4:=Lib.hid hrf;have c6:=hb4.cell 6;have c5:=hb4.cell 5;have z6:=hb4.frozen 6;simp only [zA,zB,zC] at c5 c6;clear hrf hb4 hown hg hat)
  go_wp2_with fail
  go_ret
  exact ⟨_,_,rfl,HR4.out⟩
end
def falseB (val:List Int) (x:Int):Bool:=val.getD (x.natAbs-1) 0 == -x
def failsB (val:List Int) (c:List Int):Bool:=c.all (falseB val)
set_option maxRecDepth 100000 in
set_option maxHeartbeats 1000000 in
theorem rfails_any {w0 W:World} {g gv:Nat} {f:Form} {fa fc sv cv:Value} {val:List Int} {ps:List (Stp × Value)} {us:List Value} {cs:List (List Int)} (v:Value) (c:List Int) (h:RF w0 W g gv f fa fc sv cv val ps us cs) (hv:Ints W v c) (hc:∀x∈c,x≠0 ∧ -(val.length:Int)≤x∧x≤val.length) (hl:val.length≤1024) :
  Calls Try.prog 72 #[.pointer (some ⟨g,0,none⟩),v] W fun e w'=>e = .returned (.bool (failsB val c))∧Below W.heap.size W w':=by
 have H1:=Lib.hid h
 have HC:=Lib.hid hc
 obtain ⟨A,cp,rfl,h1,h2,h3,hr⟩:=hv
 unfold maxLen at h2
 have HR:=Lib.hid hr
 clear h3 hr hc h
 go_enter Try.func72,Try.ntmps72
 go_wp2_with fail
 go_loopw [9] (fun i wr=>∃k:Nat,k≤c.length∧i = .int .i64 k∧(c.take k).all (falseB val)=true∧Below W.heap.size W wr) (fun i _=>c.length-(intOf i).toNat)
 case atStart=>exact ⟨0,by omega,rfl,by simp,zO _ _⟩
 case round =>
  obtain ⟨k,hk,rfl,hall,hbl⟩:=hrel
  have HB:=Lib.hid hbl
  have HALL:=Lib.hid hall
  have H2:=Lib.hid (H1.out.keep hbl)
  clear hbl hall
  by_cases hlt:k<c.length
  ·obtain ⟨x,hx⟩:∃x,c[k]? = some x:=⟨_,List.getElem?_eq_getElem hlt⟩
   obtain ⟨b1,o1,rfl,hb1,hc1⟩:=(HR.out.keep HB.out).int hx
   have HX:=Lib.hid hx
   obtain ⟨x0,x1,x2⟩:=HC.out x (List.mem_of_getElem? hx)
   obtain ⟨n,hn⟩:∃n:Nat,x.natAbs=n+1:=⟨x.natAbs-1,by omega⟩
   have hnl:n<val.length:=by omega
   obtain ⟨y,hy⟩:∃y,val[n]? = some y:=⟨_,List.getElem?_eq_getElem hnl⟩
   have q4:=H2.out.b.cell 4
   have p1:=H2.out.bv.cell n
   rw [gV hy] at p1
   simp only [zA,zB,zC] at q4
   have HS:Hid (∀m,Calls Try.prog 48 #[.int .i64 x] (wr.drewN m) fun e w'=>e = .returned (.int .i64 ((n:Int)+1))∧w'=wr.drewN m):=fun m=>by
    have h:=bG x (wr.drewN m) ⟨by omega,by omega⟩ (by omega)
    rw [hn] at h
    exact h.mono fun e w' hh=>⟨hh.1,hh.2.symm⟩
   have HF:Hid (falseB val x=(y == -x)):=by
    refine Lib.hid ?_
    unfold falseB
    rw [hn,vK,List.getD_eq_getElem?_getD,hy];rfl
   have y1:IntKind.i64.wrap ((n:Int)+1-1)=(n:Int):=by rw [show (n:Int)+1-1=(n:Int) by omega];exact qW _ (by omega)
   have y2:IntKind.i64.wrap (-x) = -x:=qW _ (by omega)
   have y3:(n:Int)<(val.length:Int):=by omega
   clear hx hy hn
   by_cases e:y = -x
   ·have de:(y != -x)=false:=by simp [e]
    have HN:Hid ((c.take (k+1)).all (falseB val)=true):=bV HALL.out HX.out (by rw [HF.out];simp [e])
    clear e
    go_wp2_with fail
    go_quiet ((go_at_call 48;exact kC (HS.out _)))
    clear y1 y2
    go_wp2_with fail
    go_roundw
    case rel=>exact ⟨k+1,by omega,by go_num,HN.out,fC HB.out _⟩
    case measure=>simp [intOf];omega
   ·have de:(y != -x)=true:=by simp [e]
    have HN:Hid (failsB val c=false):=by
     refine Lib.hid ?_
     unfold failsB
     rw [kR]
     exact ⟨x,List.mem_of_getElem? HX.out,by rw [HF.out];simp [e]⟩
    clear e
    go_wp2_with fail
    go_quiet ((go_at_call 48;exact kC (HS.out _)))
    clear y1 y2
    go_wp2_with fail
    go_ret
    exact ⟨by rw [HN.out];rfl,fC HB.out _⟩
  ·have HN:Hid (failsB val c=true):=fX HALL.out (by omega)
   go_wp2_with fail
   go_ret
   exact ⟨by rw [HN.out];rfl,HB.out⟩
end Go.Proofs.Yticieifacalocaa
