/- Resolvent ClausesRef OwnStps Tape -/
import Derived.Test.YticieifacalocaaTSC23
import Derived.Deep.RegionHeld3
namespace Go.Proofs.Yticieifacalocaa
open Go.RowKit
set_option maxRecDepth 100000 in
theorem dX (v:Value) (zs:List Int) (x:Int) (w:World) (hv:Ints w v zs) :
  Calls Try.prog 75 #[v, .int .i64 x] w fun e w'=>e = .returned (.bool (decide (x∈zs)))∧w=w':=by
 obtain ⟨A,c,rfl,h1,h2,h3,hr⟩:=hv
 unfold maxLen at h2
 have HR:=Lib.hid hr
 clear h3 hr
 go_enter Try.func75,Try.ntmps75
 go_wp2_with fail
 go_loop [9] (fun i=>∃k:Nat,k≤zs.length∧i = .int .i64 k∧x∉zs.take k) (fun i=>zs.length-(intOf i).toNat)
 case atStart=>exact ⟨0,by omega,rfl,by simp⟩
 case round =>
  obtain ⟨k,hk,rfl,hno⟩:=hrel
  have HNO:=Lib.hid hno
  clear hno
  by_cases hlt:k<zs.length
  ·obtain ⟨y,hy⟩:∃y,zs[k]? = some y:=⟨_,List.getElem?_eq_getElem hlt⟩
   obtain ⟨b,o,rfl,hb,hc⟩:=HR.out.int hy
   have HY:=Lib.hid hy
   clear hy
   by_cases e:y=x
   ·have de:(y == x)=true:=by simp [e]
    have HIN:Hid (x∈zs):=e ▸ List.mem_of_getElem? HY.out
    clear e
    go_wp2_with fail
    go_ret
    exact ⟨sC (by simp [HIN.out]),rfl⟩
   ·have de:(y == x)=false:=by simp [e]
    have HN:Hid (x∉zs.take (k+1)):=by
     refine Lib.hid ?_
     rw [gC HY.out]
     simp only [zK,zI,jC]
     exact ⟨HNO.out,fun h=>e h.symm⟩
    clear e
    go_wp2_with fail
    go_round
    case rel=>exact ⟨k+1,by omega,by go_num,HN.out⟩
    case measure=>simp [intOf];omega
  ·have HN:Hid (x∉zs):=by
    have h:=HNO.out
    rwa [zV (by omega)] at h
   go_wp2_with fail
   go_ret
   exact ⟨sC (by simp [HN.out]),rfl⟩
def tL (a x:Int):Bool:=decide (x≠a)
theorem mZ {l:List Int} {k:Nat} {x a:Int} (hk:l[k]? = some x) (h:x≠a):(l.take (k+1)).filter (tL a)=(l.take k).filter (tL a)++[x]:=by
 rw [gC hk,List.filter_append];simp [tL,h]
theorem nK {l:List Int} {k:Nat} {x a:Int} (hk:l[k]? = some x) (h:x=a):(l.take (k+1)).filter (tL a)=(l.take k).filter (tL a):=by
 rw [gC hk,List.filter_append];simp [tL,h]
set_option maxRecDepth 100000 in
set_option maxHeartbeats 2000000 in
theorem nW (pv qv:Value) (P Q:List Int) (v:Int) (w:World) (hp:Ints w pv P) (hq:Ints w qv Q) (hlP:P.length≤500000) (hlQ:Q.length≤500000) :
  Calls Try.prog 53 #[pv,qv, .int .i64 v] w (ClRet w (res P Q v)):=by
 have HP:=Lib.hid hp
 have HQ:=Lib.hid hq
 obtain ⟨A1,c1,rfl,p1,p2,p3,p4⟩:=hp
 obtain ⟨A2,c2,rfl,q1,q2,q3,q4⟩:=hq
 unfold maxLen at p2 q2
 have HRP:=Lib.hid p4
 have HRQ:=Lib.hid q4
 have HXP:=Lib.hid p3
 have HXQ:=Lib.hid q3
 clear p3 p4 q3 q4
 obtain ⟨iI,hiI,hzI0,hzI1,hzI2⟩:=qC gP
 by_cases a1:v<0
 ·have d1:decide (v<0)=true:=by simpa using a1
  have HN:Hid (res P Q v=none):=by refine Lib.hid ?_;unfold res;rw [if_neg (by omega)]
  clear a1
  go_enter Try.func53,Try.ntmps53
  go_wp2_with fail
  go_ret2
  exact ClRet.no HN.out (zM _ _)
 have d1:decide (v<0)=false:=by simpa using a1
 by_cases a2:1024≤v
 ·have d2:decide ((1024:Int)≤v)=true:=by simpa using a2
  have HN:Hid (res P Q v=none):=by refine Lib.hid ?_;unfold res;rw [if_neg (by omega)]
  clear a1 a2
  go_enter Try.func53,Try.ntmps53
  go_wp2_with fail
  go_ret2
  exact ClRet.no HN.out (zM _ _)
 have d2:decide ((1024:Int)≤v)=false:=by simpa using a2
 by_cases h3:v+1∈P
 ·by_cases h4 : -(v+1)∈Q
  ·have HN:Hid (res P Q v=gB (P.filter (tL (v+1))++Q.filter (tL (-(v+1))))):=by refine Lib.hid ?_;unfold res;rw [if_pos ⟨by omega,by omega,h3,h4⟩];rfl
   have e3:Hid (decide (v+1∈P)=true):=by refine Lib.hid ?_;simpa using h3
   have e4:Hid (decide (-(v+1)∈Q)=true):=by refine Lib.hid ?_;simpa using h4
   clear h3 h4
   go_enter Try.func53,Try.ntmps53
   go_wp2_with fail
   refine (dX _ P (v+1) w HP.out).mono ?_
   rintro e w' ⟨rfl,rfl⟩
   rw [e3.out]
   go_wp2_with fail
   refine (dX _ Q (-(v+1)) w HQ.out).mono ?_
   rintro e w' ⟨rfl,rfl⟩
   rw [e4.out]
   go_wp2_with fail
   go_loopw [8,36] (fun o i wr=>∃k:Nat,k≤P.length∧i = .int .i64 k∧Own wr w.heap.size o ((P.take k).filter (tL (v+1)))∧Below w.heap.size w wr) (fun _ i _=>P.length-(intOf i).toNat)
   case atStart=>exact ⟨0,by omega,rfl,⟨qE _ _ _ _,by simp⟩,zM _ _⟩
   case round =>
    obtain ⟨k,hk,rfl,how,hbw⟩:=hrel
    have HO:=Lib.hid how
    have HB:=Lib.hid hbw
    generalize hys:(P.take k).filter (tL (v+1))=ys at *
    have HYS:=Lib.hid hys
    have hyl:ys.length≤k:=by rw [←hys];exact qA (yZ _ _) (xK _ _)
    obtain ⟨Ao,co,ho, -, -, -⟩:=wQ how.1
    subst ho
    have hsz:=hbw.size
    clear hys how hbw
    by_cases hlt:k<P.length
    ·obtain ⟨x,hx⟩:∃x,P[k]? = some x:=⟨_,List.getElem?_eq_getElem hlt⟩
     obtain ⟨b1,o1,rfl,hb1,hc1⟩:=(HRP.out.keep HB.out).int hx
     have HX:=Lib.hid hx
     clear hx
     by_cases e:x=v+1
     ·have de:(x != v+1)=false:=by simp [e]
      have HF:=Lib.hid (nK (a:=v+1) HX.out e)
      clear e
      go_wp2_with fail
      go_roundw
      case rel=>exact ⟨k+1,by omega,by go_num,by rw [HF.out,HYS.out];exact HO.out,HB.out⟩
      case measure=>simp [intOf];omega
     ·have de:(x != v+1)=true:=by simp [e]
      have HF:=Lib.hid (mZ (a:=v+1) HX.out e)
      clear e
      go_wp2_with (at_builtin;refine zX _ rfl _ _ 33 rfl w.heap.size 3 iI (.int .i64 0) 1 8 Try.underlying33 hiI hzI0 hzI1 hzI2 rfl (by decide) _ _ _ rfl (HO.out.1.alloc _) ⟨wr.heap.size,0,none⟩ 1 1 [.int .i64 x] rfl rfl ?a1 ?a2 ?a3 ?a4 ?a5 ?_)
      case a1=>exact gN wr _ _
      case a2=>intro u hu;simp at hu;subst hu;rfl
      case a3=>unfold maxLen;omega
      case a4=>omega
      case a5=>simp;omega
      intro v' w2 hown' hgrow _ hat
      have HO2:Hid (Own w2 w.heap.size v' ((P.take (k+1)).filter (tL (v+1)))):=by
       rw [HF.out,HYS.out]
       refine Lib.hid ⟨by simpa using hown',fun z hz => ?_⟩
       rcases zK.1 hz with hz|hz
       ·exact HO.out.2 z hz
       ·rw [zI] at hz;subst hz;exact HXP.out z (List.mem_of_getElem? HX.out)
      have HB2:Hid (Below w.heap.size w w2):=(HB.out.alloc hsz _).grown hgrow (by simp;omega) (fun g hg=>(HO.out.1.lt g hg).1)
      clear hown' hgrow hat
      go_wp2_with fail
      go_roundw
      case rel=>exact ⟨k+1,by omega,by go_num,HO2.out,HB2.out⟩
      case measure=>simp [intOf];omega
    ·have hys2:P.filter (tL (v+1))=ys:=by rw [←HYS.out,zV (by omega)]
     rw [hys2] at HN
     clear hys2
     go_wp2_with fail
     go_loopw [8,51] (fun o i wr=>∃k:Nat,k≤Q.length∧i = .int .i64 k∧Own wr w.heap.size o (ys++(Q.take k).filter (tL (-(v+1))))∧Below w.heap.size w wr) (fun _ i _=>Q.length-(intOf i).toNat)
     case atStart=>exact ⟨0,by omega,rfl,by simpa using HO.out,HB.out⟩
     case round =>
      obtain ⟨j,hj,rfl,how,hbw⟩:=hrel
      obtain ⟨wo,rfl⟩:∃wo:World,wo=wr:=⟨_,rfl⟩
      have HO3:=Lib.hid how
      have HB3:=Lib.hid hbw
      generalize hzs:ys++(Q.take j).filter (tL (-(v+1)))=zs at *
      have HZS:=Lib.hid hzs
      have hzl:zs.length≤ys.length+j:=by rw [←hzs,zH];have:=qA (yZ (tL (-(v+1))) (Q.take j)) (xK _ _);omega
      obtain ⟨Az,cz,hz, -, -, -⟩:=wQ how.1
      subst hz
      have hsz3:=hbw.size
      clear hzs how hbw
      by_cases hjt:j<Q.length
      ·obtain ⟨x,hx⟩:∃x,Q[j]? = some x:=⟨_,List.getElem?_eq_getElem hjt⟩
       obtain ⟨b1,o1,rfl,hb1,hc1⟩:=(HRQ.out.keep HB3.out).int hx
       have HX:=Lib.hid hx
       clear hx
       by_cases e:x = -(v+1)
       ·have de:(x != -(v+1))=false:=by simp [e]
        have HF:=Lib.hid (nK (a := -(v+1)) HX.out e)
        clear e
        go_wp2_with fail
        go_roundw
        case rel=>exact ⟨j+1,by omega,by go_num,by rw [HF.out,HZS.out];exact HO3.out,HB3.out⟩
        case measure=>simp [intOf];omega
       ·have de:(x != -(v+1))=true:=by simp [e]
        have HF:=Lib.hid (mZ (a := -(v+1)) HX.out e)
        clear e
        go_wp2_with (at_builtin;refine zX _ rfl _ _ 33 rfl w.heap.size 3 iI (.int .i64 0) 1 8 Try.underlying33 hiI hzI0 hzI1 hzI2 rfl (by decide) _ _ _ rfl (HO3.out.1.alloc _) ⟨wo.heap.size,0,none⟩ 1 1 [.int .i64 x] rfl rfl ?b1 ?b2 ?b3 ?b4 ?b5 ?_)
        case b1=>exact gN wo _ _
        case b2=>intro u hu;simp at hu;subst hu;rfl
        case b3=>unfold maxLen;omega
        case b4=>omega
        case b5=>simp;omega
        intro v' w2 hown' hgrow _ hat
        have HO2:Hid (Own w2 w.heap.size v' (ys++(Q.take (j+1)).filter (tL (-(v+1))))):=by
         rw [HF.out,←zZ,HZS.out]
         refine Lib.hid ⟨by simpa using hown',fun z hz => ?_⟩
         rcases zK.1 hz with hz|hz
         ·exact HO3.out.2 z hz
         ·rw [zI] at hz;subst hz;exact HXQ.out z (List.mem_of_getElem? HX.out)
        have HB2:Hid (Below w.heap.size w w2):=(HB3.out.alloc hsz3 _).grown hgrow (by simp;omega) (fun g hg=>(HO3.out.1.lt g hg).1)
        clear hown' hgrow hat
        go_wp2_with fail
        go_roundw
        case rel=>exact ⟨j+1,by omega,by go_num,HO2.out,HB2.out⟩
        case measure=>simp [intOf];omega
      ·have hzs2:ys++Q.filter (tL (-(v+1)))=zs:=by rw [←HZS.out,zV (by omega)]
       rw [hzs2] at HN
       clear hzs2
       go_wp2_with fail
       refine (eL _ zs _ HO3.out.ints (by omega)).mono ?_
       intro e w3 hnr
       have hcl:=NormRet.cl (w:=w) hnr HN.out HB3.out
       clear hnr
       obtain ⟨v,rfl,h5,h6⟩:=hcl
       have H5:=Lib.hid h5
       have H6:=Lib.hid h6
       clear h5 h6
       go_wp2_with fail
       go_ret2
       exact ⟨v,rfl,H5.out,H6.out⟩
  ·have HN:Hid (res P Q v=none):=by refine Lib.hid ?_;unfold res;rw [if_neg (fun h=>h4 h.2.2.2)]
   have e3:Hid (decide (v+1∈P)=true):=by refine Lib.hid ?_;simpa using h3
   have e4:Hid (decide (-(v+1)∈Q)=false):=by refine Lib.hid ?_;simpa using h4
   clear h3 h4
   go_enter Try.func53,Try.ntmps53
   go_wp2_with fail
   refine (dX _ P (v+1) w HP.out).mono ?_
   rintro e w' ⟨rfl,rfl⟩
   rw [e3.out]
   go_wp2_with fail
   refine (dX _ Q (-(v+1)) w HQ.out).mono ?_
   rintro e w' ⟨rfl,rfl⟩
   rw [e4.out]
   go_wp2_with fail
   go_ret2
   exact ClRet.no HN.out (zM _ _)
 ·have HN:Hid (res P Q v=none):=by refine Lib.hid ?_;unfold res;rw [if_neg (fun h=>h3 h.2.2.1)]
  have e3:Hid (decide (v+1∈P)=false):=by refine Lib.hid ?_;simpa using h3
  clear h3
  go_enter Try.func53,Try.ntmps53
  go_wp2_with fail
  refine (dX _ P (v+1) w HP.out).mono ?_
  rintro e w' ⟨rfl,rfl⟩
  rw [e3.out]
  go_wp2_with fail
  go_ret2
  exact ClRet.no HN.out (zM _ _)
def RClsRet (w:World) (r:List (List Int) × Bool) (e:Ending) (w':World):Prop :=
 (r.2=true∧∃v,e = .returned (.tuple #[v, .int .i64 (-1)])∧ClsOk w r.1 v w')∨(r.2=false∧e = .returned (.tuple #[.slice none 0 0, .int .i64 (r.1.length:Int)])∧Below w.heap.size w w')
def OwnStps (w:World) (base:Nat) (P:Nat→Prop) (v:Value) (ps:List (Stp × Value)):Prop :=
 w.ownsRow base 91 6 v ps.length (ps.flatMap Stp.cells)∧∀q∈ps,IntsO w (fun b=>P b∧some b≠v.ownBlock) q.2 q.1.lits∧q.1.ok
section
variable {w w':World} {base:Nat} {P Q:Nat→Prop} {v:Value} {ps:List (Stp × Value)}
theorem OwnStps.nil (w:World) (base:Nat) (P:Nat→Prop):OwnStps w base P (.slice none 0 0) []:=⟨qE _ _ _ _,by simp⟩
theorem OwnStps.stps (h:OwnStps w base P v ps):Stps w v (ps.map (·.1)):=by
 obtain ⟨A,c,h1,h2,h3,h4⟩:=wQ h.1
 exact ⟨A,c,ps,rfl,h1,h2,h3,h4,fun q hq=>⟨(h.2 q hq).1.ints,(h.2 q hq).2⟩⟩
theorem OwnStps.keep (h:OwnStps w base P v ps) (hb:Below w.heap.size w w'):OwnStps w' base P v ps:=⟨bZ h.1 hb,fun q hq=>⟨(h.2 q hq).1.keep hb,(h.2 q hq).2⟩⟩
theorem OwnStps.grown {row:Option Nat} (h:OwnStps w base P v ps) (hg:w.grownBy w' row) (hv:v.ownBlock=none∨v.ownBlock≠row) (hne:∀b,P b→some b≠row):OwnStps w' base P v ps :=
 ⟨h.1.kept hg hv,fun q hq=>⟨(h.2 q hq).1.grown hg fun b hb=>hne b hb.1,(h.2 q hq).2⟩⟩
theorem OwnStps.push {v':Value} {o:Obj} {s:Stp} {lv:Value} (h:OwnStps w base P v ps) (hu:IntsO w (fun b=>P b∧some b≠v.ownBlock) lv s.lits) (hs:s.ok)
  (ho:w'.ownsRow base 91 6 v' (ps.length+1) (ps.flatMap Stp.cells++Stp.cells (s,lv))) (hg:(w.alloc o).grownBy w' v.ownBlock) (hat:v'.ownBlock=v.ownBlock∨v'.ownBlock=some (w.alloc o).heap.size):OwnStps w' base P v' (ps++[(s,lv)]):=by
 have key:∀{u xs},IntsO w (fun b=>P b∧some b≠v.ownBlock) u xs→IntsO w' (fun b=>P b∧some b≠v'.ownBlock) u xs:=by
  intro u xs h
  refine IntsO.mono (P:=fun b=>(P b∧some b≠v.ownBlock)∧b<w.heap.size) ?_ fun b _ hb=>⟨hb.1.1,?_⟩
  ·have h1:IntsO w (fun b=>(P b∧some b≠v.ownBlock)∧b<w.heap.size) u xs:=h.mono fun b h1 h2=>⟨h2,h1⟩
   exact (h1.grown (dH w o) (fun b _=>by simp)).grown hg fun b hb=>hb.1.2
  ·rcases hat with e|e<;>rw [e]
   ·exact hb.1.2
   ·simp;have:=hb.2;omega
 refine ⟨by simpa using ho,fun q hq => ?_⟩
 rcases zK.1 hq with hq|hq
 ·exact ⟨key (h.2 q hq).1,(h.2 q hq).2⟩
 ·rw [zI] at hq;subst hq;exact ⟨key hu,hs⟩
end
def Byts (w:World) (v:Value) (xs:List Int):Prop :=
 ∃A c,v = .slice A xs.length c∧xs.length≤c∧c≤maxLen∧(∀x∈xs,0≤x∧x≤255)∧Rd w A (xs.map (Value.int .u8))
theorem Byts.keep {w w':World} {v:Value} {xs:List Int} (h:Byts w v xs) (hb:Below w.heap.size w w'):Byts w' v xs:=by
 obtain ⟨A,c,hv,hl,hm,hx,hr⟩:=h
 exact ⟨A,c,hv,hl,hm,hx,hr.keep hb⟩
def NextRet (w:World) (g:Nat) (lv:Value) (len:Nat) (n:Int) (e:Ending) (w':World):Prop :=
 ∃(x:Int) (at':Nat),e = .returned (.int .i64 x)∧0≤x∧x<n∧at'≤len∧Blk w' g 101 #[lv, .int .i64 at']∧w.grownBy w' (some g)∧w'.heap.size=w.heap.size
set_option maxRecDepth 100000 in
set_option maxHeartbeats 1000000 in
theorem fP (g:Nat) (lv:Value) (at_:Nat) (L:List Int) (n:Int) (w:World) (hB:Blk w g 101 #[lv, .int .i64 at_]) (hL:Byts w lv L) (h1:1≤n) (h2:n≤1000000) (hat:at_≤L.length) (hlen:L.length≤1000000) :
  Calls Try.prog 44 #[.pointer (some ⟨g,0,none⟩), .int .i64 n] w (NextRet w g lv L.length n):=by
 have q0:=hB.cell 0
 have q1:=hB.cell 1
 simp only [zA,zB,zC] at q0 q1
 have f1:=hB.frozen 1
 have hgl:=hB.lt
 have HB:=Lib.hid hB
 obtain ⟨A,c,rfl,k1,k2,k3,hr⟩:=hL
 have HR:=Lib.hid hr
 have HX:=Lib.hid k3
 clear hB k2 k3 hr
 have dn:decide (n<1)=false:=by simp;omega
 by_cases hlt:at_<L.length
 ·obtain ⟨x,hx⟩:∃x,L[at_]? = some x:=⟨_,List.getElem?_eq_getElem hlt⟩
  obtain ⟨b,o,rfl,hb,hc⟩:=HR.out.at_ (u := .int .u8 x) (by rw [List.getElem?_map,hx];rfl)
  obtain ⟨x1,x2⟩:=HX.out x (List.mem_of_getElem? hx)
  have hbg:b≠g:=by
   rintro rfl
   rw [HB.out.cell] at hc
   rcases h:o+at_ with _|_|m<;>rw [h] at hc<;>simp at hc
  clear hx
  have d1:decide ((L.length:Int)≤(at_:Int))=false:=by simp;omega
  go_enter Try.func44,Try.ntmps44
  go_wp2_with fail
  go_quiet (fail)
  go_wp2_with fail
  have B1:Blk ((w.drewN nq).setCell ⟨g,1,none⟩ (.int .i64 ((at_:Int)+1))) g 101 #[.slice (some ⟨b,o,none⟩) L.length c, .int .i64 ((at_:Int)+1)]:=(HB.out.drewN nq).set_ 1 _
  have hc1:((w.drewN nq).setCell ⟨g,1,none⟩ (.int .i64 ((at_:Int)+1))).cell? ⟨b,o+at_,none⟩=some (.int .u8 x) :=
   (yK (a:=⟨b,o+at_,none⟩) (kK (w.drewN nq) ⟨g,1,none⟩ _ b hbg)).trans hc
  have hgr:w.grownBy ((w.drewN nq).setCell ⟨g,1,none⟩ (.int .i64 ((at_:Int)+1))) (some g) :=
   ⟨rfl,rfl,rfl,by simp,fun k _ hne=>kK (w.drewN nq) ⟨g,1,none⟩ _ k (by simpa using hne)⟩
  have hsz:((w.drewN nq).setCell ⟨g,1,none⟩ (.int .i64 ((at_:Int)+1))).heap.size=w.heap.size:=by simp
  generalize (w.drewN nq).setCell ⟨g,1,none⟩ (.int .i64 ((at_:Int)+1))=W at *
  have q0:=B1.cell 0
  have q1:=B1.cell 1
  simp only [zA,zB,zC] at q0 q1
  have HB1:=Lib.hid B1
  have HG:=Lib.hid hgr
  have HSZ:=Lib.hid hsz
  clear B1 hgr hc hsz
  have y1:IntKind.i64.wrap ((at_:Int)+1-1)=(at_:Int):=by rw [show (at_:Int)+1-1=at_ by omega];exact qI _ (by omega)
  have y2:((at_:Int)).toNat=at_:=by omega
  have y3:IntKind.i64.wrap x=x:=qI _ (by omega)
  have ym1:0≤x % n:=vC _ (by omega)
  have ym2:x % n<n:=kM _ (by omega)
  have y4:IntKind.i64.wrap (x % n)=x % n:=qI _ (by omega)
  have y5:(n == 0)=false:=by simp;omega
  go_quiet (fail)
  go_wp2_with fail
  go_ret
  exact ⟨x % n,at_+1,rfl,ym1,ym2,by omega,HB1.out.drewN _,⟨HG.out.os,HG.out.tape,HG.out.output,HG.out.size,HG.out.block⟩,HSZ.out⟩
 ·have d1:decide ((L.length:Int)≤(at_:Int))=true:=by simp;omega
  go_enter Try.func44,Try.ntmps44
  go_wp2_with fail
  go_quiet (fail)
  go_wp2_with fail
  go_ret
  exact ⟨0,at_,rfl,by omega,by omega,hat,HB.out.drewN _,⟨rfl,rfl,rfl,Nat.le_refl _,fun _ _ _=>rfl⟩,rfl⟩
end Go.Proofs.Yticieifacalocaa
