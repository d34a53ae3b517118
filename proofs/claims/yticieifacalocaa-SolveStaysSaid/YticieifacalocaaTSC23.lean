/- NormalRef CyclicR -/
import Derived.Test.YticieifacalocaaTSC22
namespace Go.Proofs.Yticieifacalocaa
open Go.RowKit
theorem cQ (x:Int) (w:World) (hx:I64 x) (h0:x ≠ -9223372036854775808) :
  Calls Try.prog 48 #[.int .i64 x] w fun e w'=>e = .returned (.int .i64 (x.natAbs:Nat))∧w=w':=by
 by_cases h:0≤x
 ·have e:((x.natAbs:Nat):Int)=x:=by omega
  rw [e];exact abs_nonneg x w h
 ·have e:((x.natAbs:Nat):Int) = -x:=by omega
  rw [e];exact abs_neg x w (by omega) (by have:=hx.1;omega)
theorem insAbs_end {x:Int} {l:List Int} (h:∀y∈l,y.natAbs<x.natAbs):dC x l=some (l++[x]):=by
 induction l with
 | nil=>rfl
 | cons y r ih =>
  rw [dC,if_pos (h y (by simp)),ih fun z hz=>h z (by simp [hz])];rfl
theorem insAbs_at {x:Int} {l:List Int} {j:Nat} {y:Int} (h:∀z∈l.take j,z.natAbs<x.natAbs) (hy:l[j]? = some y) (hn:¬y.natAbs<x.natAbs) :
  dC x l=if y=x then some l else if y = -x then none else some (l.take j++x::l.drop j):=by
 induction l generalizing j with
 | nil=>simp at hy
 | cons a r ih =>
  cases j with
  | zero =>
   simp at hy
   subst hy
   rw [dC,if_neg hn]
   simp
  | succ j =>
   rw [dC,if_pos (h a (by simp)),ih (j:=j) (fun z hz=>h z (by simp [hz])) (by simpa using hy)]
   split
   ·rfl
   ·split<;>simp
theorem nG {xs l:List Int} {k:Nat} {x:Int} (hk:xs[k]? = some x) (h:gB (xs.take k)=some l) (hb:gL x=false):gB (xs.take (k+1))=dC x l:=by
 rw [gC hk,norm_snoc,h]
 simp [bT,hb]
theorem nT {xs:List Int} {k:Nat} (h:gB (xs.take k)=none):gB xs=none:=by
 have hs:=gV (xs.take k)
 rw [h] at hs
 refine bX ?_
 rcases hs with ⟨x,hx,hb⟩|⟨x,hx,ho,h0⟩
 ·exact .inl ⟨x,zO hx,hb⟩
 ·exact .inr ⟨x,zO hx,zO ho,h0⟩
theorem wrap_min:((-9223372036854775808:Int) == wrap64 9223372036854775808)=true:=by kernel_rfl
set_option maxRecDepth 100000 in
set_option maxHeartbeats 2000000 in
theorem eL (v:Value) (xs:List Int) (w:World) (hv:Ints w v xs) (hlen:xs.length≤1000000) :
  Calls Try.prog 71 #[v] w (NormRet w xs):=by
 obtain ⟨A,c,rfl,hl,hm,hx,hr⟩:=hv
 obtain ⟨i0,hi,hz0,hz1,hz2⟩:=qC gP
 have HX:=Lib.hid hx
 have HR:=Lib.hid hr
 have HLEN:=Lib.hid hlen
 have hlenI:(xs.length:Int)≤1000000:=by omega
 clear hx hr hlen hm
 go_enter Try.func71,Try.ntmps71
 go_wp2_with fail
 go_loopw [4,11] (fun r i wr=>∃(k:Nat) (l:List Int),k≤xs.length∧i = .int .i64 k∧gB (xs.take k)=some l∧wr.ownsRow w.heap.size 3 1 r l.length (l.map (Value.int .i64))∧Below w.heap.size w wr) (fun _ i _=>xs.length-(intOf i).toNat)
 case atStart=>exact ⟨0,[],by omega,rfl,rfl,qE _ _ _ _,zM _ _⟩
 case round =>
  obtain ⟨k,l,hk,rfl,hnorm,hown,hbw⟩:=hrel
  have HN:=Lib.hid hnorm
  have HOWN:=Lib.hid hown
  have HBW:=Lib.hid hbw
  clear hnorm hown hbw
  obtain ⟨A1,cap1,rfl⟩:=cL HOWN.out
  by_cases hlt:k<xs.length
  ·obtain ⟨x,hxk⟩:∃x,xs[k]? = some x:=⟨_,List.getElem?_eq_getElem hlt⟩
   obtain ⟨b1,o1,rfl,hb1,hc1⟩:=(HR.out.keep HBW.out).int hxk
   have HXK:=Lib.hid hxk
   clear hxk
   by_cases hb0:gL x=true
   ·have HNN:=Lib.hid (lR HXK.out hb0)
    have hor:x=0∨x = -9223372036854775808:=by simpa [gL] using hb0
    clear hb0
    rcases hor with rfl|rfl
    ·go_wp2_with fail
     go_ret2
     exact dV HNN.out HBW.out
    ·have hmin:=wrap_min
     go_wp2_with fail
     go_ret2
     exact dV HNN.out HBW.out
   ·have hb1':gL x=false:=by simpa using hb0
    have hxI:=HX.out x (List.mem_of_getElem? HXK.out)
    have hxm:x ≠ -9223372036854775808:=by intro h;subst h;simp [gL] at hb1'
    have hx0:=bQ hb1'
    obtain ⟨hx1,hx2⟩:=hxI
    have hx3 : -9223372036854775807≤x:=by omega
    have e1:(x == 0)=false:=by simpa using hx0
    have e2:(x == -x)=false:=by simp;omega
    have HS:=Lib.hid (nG HXK.out HN.out hb1')
    have HXM:=Lib.hid hxm
    have HX0:=Lib.hid hx0
    clear hb0 hb1' hx1 hxm hx0
    have hll:l.length≤k:=by
     have h1:=tJ HN.out
     have h2:=xK k xs
     omega
    have HLI:=Lib.hid (tA HN.out (P:=fun z=>I64 z) fun z hz=>HX.out z (zO hz))
    have HLB:=Lib.hid (by have hs:=gV (xs.take k);rw [HN.out] at hs;exact fun z hz=>hs.2.2 z ((hs.2.1 z).1 hz):∀z∈l,gL z=false)
    have HRL:=Lib.hid (Own.ints (base:=w.heap.size) ⟨HOWN.out,HLI.out⟩)
    go_wp2_with fail
    go_loop [7] (fun i=>∃j:Nat,j≤l.length∧i = .int .i64 j∧∀z∈l.take j,z.natAbs<x.natAbs) (fun i=>l.length-(intOf i).toNat)
    case atStart=>exact ⟨0,by omega,rfl,by simp⟩
    case round =>
     obtain ⟨j,hj,rfl,hsm⟩:=hrel
     have HSM:=Lib.hid hsm
     clear hsm
     by_cases hjl:j<l.length
     ·obtain ⟨y,hy⟩:∃y,l[j]? = some y:=⟨_,List.getElem?_eq_getElem hjl⟩
      obtain ⟨A3,c3,hv3,_,_,_,hr3⟩:=HRL.out
      injection hv3 with hv4 _ hv5
      subst hv4 hv5
      obtain ⟨b2,o2,rfl,hb2,hc2⟩:=hr3.int hy
      have HY:=Lib.hid hy
      have HYI:=Lib.hid (HLI.out y (List.mem_of_getElem? hy))
      have HYB:Hid (y ≠ -9223372036854775808):=by intro h;subst h;have:=HLB.out _ (List.mem_of_getElem? hy);simp [gL] at this
      clear hy hr3
      by_cases hlt3:y.natAbs<x.natAbs
      ·have hdec:decide (((y.natAbs:Nat):Int)<((x.natAbs:Nat):Int))=true:=by simp;omega
       go_wp2_with fail
       refine (cQ y _ HYI.out HYB.out).mono ?_
       rintro e w' ⟨rfl,rfl⟩
       go_wp2_with fail
       refine (cQ x _ ⟨by omega,by omega⟩ HXM.out).mono ?_
       rintro e w' ⟨rfl,rfl⟩
       go_wp2_with fail
       go_round
       case rel =>
        refine ⟨j+1,by omega,by go_num,?_⟩
        rw [gC HY.out]
        intro z hz
        rcases zK.1 hz with hz|hz
        ·exact HSM.out z hz
        ·simp at hz;subst hz;exact hlt3
       case measure=>simp [intOf];omega
      ·have hdec:decide (((y.natAbs:Nat):Int)<((x.natAbs:Nat):Int))=false:=by simp;omega
       have HINS:=Lib.hid (insAbs_at HSM.out HY.out hlt3)
       by_cases hyx:y=x
       ·have hyb:(y == x)=true:=by simp [hyx]
        have HR2:Hid (gB (xs.take (k+1))=some l):=by
         have h:=HINS.out
         rw [if_pos hyx] at h
         exact HS.out.trans h
        clear hyx
        go_wp2_with fail
        refine (cQ y _ HYI.out HYB.out).mono ?_
        rintro e w' ⟨rfl,rfl⟩
        go_wp2_with fail
        refine (cQ x _ ⟨by omega,by omega⟩ HXM.out).mono ?_
        rintro e w' ⟨rfl,rfl⟩
        go_wp2_with fail
        refine ⟨⟨k+1,l,by omega,by go_num,HR2.out,HOWN.out,HBW.out⟩,by simp [intOf];omega⟩
       ·have hyb:(y == x)=false:=by simp [hyx]
        by_cases hyn:y = -x
        ·have hyc:(y == -x)=true:=by simp [hyn]
         have HR2:Hid (gB xs=none):=by
          have h:=HINS.out
          rw [if_neg hyx,if_pos hyn] at h
          exact nT (HS.out.trans h)
         clear hyx hyn
         go_wp2_with fail
         refine (cQ y _ HYI.out HYB.out).mono ?_
         rintro e w' ⟨rfl,rfl⟩
         go_wp2_with fail
         refine (cQ x _ ⟨by omega,by omega⟩ HXM.out).mono ?_
         rintro e w' ⟨rfl,rfl⟩
         go_wp2_with fail
         go_ret2
         exact dV HR2.out HBW.out
        ·have hyc:(y == -x)=false:=by simp [hyn]
         have HR2:Hid (gB (xs.take (k+1))=some (l.take j++x::l.drop j)):=by
          have h:=HINS.out
          rw [if_neg hyx,if_neg hyn] at h
          exact HS.out.trans h
         clear hyx hyn
         go_wp2_with fail
         refine (cQ y _ HYI.out HYB.out).mono ?_
         rintro e w' ⟨rfl,rfl⟩
         go_wp2_with fail
         refine (cQ x _ ⟨by omega,by omega⟩ HXM.out).mono ?_
         rintro e w' ⟨rfl,rfl⟩
         go_wp2_with (first
          | (at_builtin;refine bJ _ rfl (.tmp 65) (.tmp 68) 33 rfl wr.heap.size 3 i0 (.int .i64 0) 1 8 Try.underlying33 hi hz0 hz1 hz2 rfl (by decide) _ 1 [.int .i64 x] rfl ?c1 _ (l.length-j) _ ((l.drop j).map (Value.int .i64)) rfl ?c2 ?c3 ?c4 ?c5 ?c6 ?c7 ?_))
         case c1=>exact World.ownsRow_lit wr #[.int .i64 x] 1 (Nat.le_refl _) (by simp [maxLen]) rfl
         case c2=>simp
         case c3 =>
          intro _
          refine ⟨b2,o2+j,rfl,by simp;omega,fun q u hu => ?_⟩
          rw [jZ,yM] at hu
          obtain ⟨_,_,hv3,_,_,_,hr3⟩:=HRL.out
          injection hv3 with hv4
          obtain ⟨b3,o3,hA3,hb3,hc3⟩:=hr3.at_ hu
          rw [←hv4] at hA3
          injection hA3 with hA3
          injection hA3 with z1 z2
          subst z1 z2
          rw [World.cell?_alloc_lt _ _ _ hb3,show o2+j+q=o2+(j+q) by omega]
          exact hc3
         case c4=>intro u hu;obtain ⟨_,_,rfl⟩:=List.mem_map.1 hu;rfl
         case c5=>unfold maxLen;omega
         case c6=>omega
         case c7=>simp
         intro v1 w1 hown1 hg1 hat1
         obtain ⟨g1,capg,rfl,hg1b,hg1l,_,_⟩:=nS hown1 (by omega)
         have hb1w:Below wr.heap.size wr w1:=by
          refine ((zM _ _).alloc (Nat.le_refl _) _).grown hg1 (by simp) (fun q hq => ?_)
          simp [Value.ownBlock] at hq
          omega
         have HB1W:=Lib.hid hb1w
         have HO1:=Lib.hid hown1
         clear hown1 hg1 hat1 hb1w
         go_wp2_with (first
          | (at_builtin;refine wpList_append_grows _ rfl (.tmp 73) (.tmp 74) 33 rfl 3 i0 (.int .i64 0) 1 8 Try.underlying33 hi hz0 hz1 hz2 rfl (by decide) _ j j ((l.take j).map (Value.int .i64)) rfl ?d1 ?d2 ?d3 ⟨g1,0,none⟩ (1+(l.length-j)) capg ([.int .i64 x]++(l.drop j).map (Value.int .i64)) rfl ?d4 ?d5 ?d6 ?d7 ?d8 ?d9 ?_))
         case d1=>intro h;cases h
         case d2=>simp;omega
         case d3 =>
          intro ad had q u hu
          injection had with had
          subst had
          have hu2:(l.map (Value.int .i64))[q]? = some u:=by
           rw [uT,qS] at hu
           split at hu
           ·exact hu
           ·cases hu
          obtain ⟨_,_,hv3,_,_,_,hr3⟩:=HRL.out
          injection hv3 with hv4
          have hr4:=hr3.keep HB1W.out
          exact hr4.adds w1 hv4.symm q u hu2
         case d4=>simp;omega
         case d5 =>
          intro q u hu
          rw [jZ] at hu
          exact HO1.out.cells (g:=g1) rfl q u hu
         case d6 =>
          intro u hu
          rcases zK.1 hu with hu|hu
          ·simp at hu;subst hu;rfl
          ·obtain ⟨_,_,rfl⟩:=List.mem_map.1 hu;rfl
         case d7=>omega
         case d8=>unfold maxLen;omega
         case d9=>omega
         intro v2 w2 hown2 hg2
         have HO2:Hid (w2.ownsRow w.heap.size 3 1 v2 (l.take j++x::l.drop j).length ((l.take j++x::l.drop j).map (Value.int .i64))):=by
          have hle:w.heap.size≤w1.heap.size:=qA HBW.out.size HB1W.out.size
          have h:=aI hown2 hle
          have hlen2:(l.take j++x::l.drop j).length=j+(1+(l.length-j)):=by simp;omega
          rw [hlen2]
          have h2:(l.take j++x::l.drop j).map (Value.int .i64)=(l.map (Value.int .i64)).take j ++ .int .i64 x::(l.map (Value.int .i64)).drop j:=by simp
          rw [h2]
          exact h
         have HB2:Hid (Below w.heap.size w w2):=by
          refine (HBW.out.trans (HB1W.out.mono HBW.out.size)).grown hg2 (qA HBW.out.size HB1W.out.size) (fun q hq=>by cases hq)
         clear hown2 hg2
         go_wp2_with fail
         refine ⟨⟨k+1,_,by omega,by go_num,HR2.out,HO2.out,HB2.out⟩,by simp [intOf];omega⟩
     ·obtain rfl:j=l.length:=by omega
      have HINS:=Lib.hid (insAbs_end (x:=x) (l:=l) (by have h:=HSM.out;rwa [qQ] at h))
      have HR2:Hid (gB (xs.take (k+1))=some (l++[x])):=HS.out.trans HINS.out
      have hcap:l.length≤cap1∧(A1=none→l.length=0):=by
       rcases HOWN.out.2 with ⟨h1,h2⟩|⟨g,cap,cur,h1,_,_,h4,_⟩
       ·injection h1 with h1 _ h3
        subst h1 h3
        exact ⟨by omega,fun _=>h2⟩
       ·injection h1 with h1 _ h3
        subst h1 h3
        exact ⟨h4,fun h=>by cases h⟩
      have HNONE:=Lib.hid hcap.2
      have hcap1:=hcap.1
      clear hcap
      by_cases hce:cap1=l.length
      all_goals
       go_wp2_with (first
        | (at_builtin;refine bJ _ rfl (.tmp 65) (.tmp 68) 33 rfl wr.heap.size 3 i0 (.int .i64 0) 1 8 Try.underlying33 hi hz0 hz1 hz2 rfl (by decide) _ 1 [.int .i64 x] rfl ?c1 _ 0 _ [] rfl ?c2 ?c3 ?c4 ?c5 ?c6 ?c7 ?_))
       case c1=>exact World.ownsRow_lit wr #[.int .i64 x] 1 (Nat.le_refl _) (by simp [maxLen]) rfl
       case c3=>exact Rd.nil _ _
       case c5=>unfold maxLen;omega
       intro v1 w1 hown1 hg1 hat1
       obtain ⟨g1,capg,rfl,hg1b,hg1l,_,_⟩:=nS hown1 (by omega)
       have hb1w:Below wr.heap.size wr w1:=by
        refine ((zM _ _).alloc (Nat.le_refl _) _).grown hg1 (by simp) (fun q hq => ?_)
        simp [Value.ownBlock] at hq
        omega
       have HB1W:=Lib.hid hb1w
       have HO1:=Lib.hid hown1
       clear hown1 hg1 hat1 hb1w
       go_wp2_with (first
        | (at_builtin;refine wpList_append_grows _ rfl (.tmp 73) (.tmp 74) 33 rfl 3 i0 (.int .i64 0) 1 8 Try.underlying33 hi hz0 hz1 hz2 rfl (by decide) A1 l.length l.length (l.map (Value.int .i64)) rfl ?d1 ?d2 ?d3 ⟨g1,0,none⟩ 1 capg [.int .i64 x] rfl ?d4 ?d5 ?d6 ?d7 ?d8 ?d9 ?_))
       case d1=>exact fun h=>⟨HNONE.out h,HNONE.out h⟩
       case d2=>simp
       case d3 =>
        intro ad had q u hu
        obtain ⟨_,_,hv3,_,_,_,hr3⟩:=HRL.out
        injection hv3 with hv4
        have hr4:=hr3.keep HB1W.out
        exact hr4.adds w1 (hv4.symm.trans had) q u hu
       case d4=>simp
       case d5=>exact fun q u hu=>HO1.out.cells (g:=g1) rfl q u hu
       case d6=>intro u hu;simp at hu;subst hu;rfl
       case d7=>omega
       case d8=>unfold maxLen;omega
       case d9=>omega
       intro v2 w2 hown2 hg2
       have HO2:Hid (w2.ownsRow w.heap.size 3 1 v2 (l++[x]).length ((l++[x]).map (Value.int .i64))):=by
        have hle:w.heap.size≤w1.heap.size:=qA HBW.out.size HB1W.out.size
        have h:=aI hown2 hle
        have hlen2:(l++[x]).length=l.length+1:=by simp
        rw [hlen2,List.map_append]
        exact h
       have HB2:Hid (Below w.heap.size w w2):=by
        refine (HBW.out.trans (HB1W.out.mono HBW.out.size)).grown hg2 (qA HBW.out.size HB1W.out.size) (fun q hq=>by cases hq)
       clear hown2 hg2
       go_wp2_with fail
       refine ⟨⟨k+1,_,by omega,by go_num,HR2.out,HO2.out,HB2.out⟩,by simp [intOf];omega⟩
  ·have HT:Hid (gB xs=some l):=by have h:=HN.out;rwa [zV (by omega)] at h
   go_wp2_with fail
   go_ret2
   refine ⟨_,by rw [HT.out];rfl,?_,HBW.out⟩
   rw [HT.out]
   exact ⟨HOWN.out,tA HT.out HX.out⟩
structure CR (w wr:World) (fv:Array Value) (v6 v7 v8:Value) (ds:List Diff) (xs ys:List Int):Prop where
 b0:Blk wr w.heap.size 29 fv
 o6:wr.ownsRow (w.heap.size+1) 50 3 v6 ds.length (ds.flatMap Diff.cells)
 o7:wr.ownsRow (w.heap.size+1) 3 1 v7 xs.length (xs.map (Value.int .i64))
 o8:wr.ownsRow (w.heap.size+1) 3 1 v8 ys.length (ys.map (Value.int .i64))
 a67:Apart v6 v7
 a68:Apart v6 v8
 a78:Apart v7 v8
 hi:w.heap.size+1≤wr.heap.size
 bl:Below w.heap.size w wr
section
variable {w wr w':World} {fv:Array Value} {v6 v7 v8:Value} {ds:List Diff} {xs ys:List Int}
theorem CR.keep (h:CR w wr fv v6 v7 v8 ds xs ys) (hb:Below wr.heap.size wr w'):CR w w' fv v6 v7 v8 ds xs ys :=
 ⟨h.b0.keep hb,bZ h.o6 hb,bZ h.o7 hb,bZ h.o8 hb,h.a67,h.a68,h.a78,qA h.hi hb.size,h.bl.trans (hb.mono h.bl.size)⟩
theorem CR.push6 {v6':Value} {d:Diff} (h:CR w wr fv v6 v7 v8 ds xs ys) (ho:w'.ownsRow (w.heap.size+1) 50 3 v6' (ds.length+1) (ds.flatMap Diff.cells++d.cells)) (hg:wr.grownBy w' v6.ownBlock) (hat:v6'.ownBlock=v6.ownBlock∨v6'.ownBlock=some wr.heap.size):CR w w' fv v6' v7 v8 (ds++[d]) xs ys:=by
 refine ⟨h.b0.grown hg fun e => ?_,by simpa using ho,h.o7.kept hg h.a67.symm.ne,h.o8.kept hg h.a68.symm.ne,(h.a67.symm.append (fun g e=>(h.o7.lt g e).2) hat).symm,(h.a68.symm.append (fun g e=>(h.o8.lt g e).2) hat).symm,h.a78,qA h.hi hg.size,h.bl.grown hg h.bl.size fun g e => ?_⟩
 ·have:=(h.o6.lt _ e.symm).1;omega
 ·have:=(h.o6.lt g e).1;omega
theorem CR.push7 {v7':Value} {x:Int} (h:CR w wr fv v6 v7 v8 ds xs ys) (ho:w'.ownsRow (w.heap.size+1) 3 1 v7' (xs.length+1) (xs.map (Value.int .i64)++[.int .i64 x])) (hg:wr.grownBy w' v7.ownBlock) (hat:v7'.ownBlock=v7.ownBlock∨v7'.ownBlock=some wr.heap.size):CR w w' fv v6 v7' v8 ds (xs++[x]) ys:=by
 refine ⟨h.b0.grown hg fun e => ?_,h.o6.kept hg h.a67.ne,by simpa using ho,h.o8.kept hg h.a78.symm.ne,h.a67.append (fun g e=>(h.o6.lt g e).2) hat,h.a68,(h.a78.symm.append (fun g e=>(h.o8.lt g e).2) hat).symm,qA h.hi hg.size,h.bl.grown hg h.bl.size fun g e => ?_⟩
 ·have:=(h.o7.lt _ e.symm).1;omega
 ·have:=(h.o7.lt g e).1;omega
theorem CR.push8 {v8':Value} {x:Int} (h:CR w wr fv v6 v7 v8 ds xs ys) (ho:w'.ownsRow (w.heap.size+1) 3 1 v8' (ys.length+1) (ys.map (Value.int .i64)++[.int .i64 x])) (hg:wr.grownBy w' v8.ownBlock) (hat:v8'.ownBlock=v8.ownBlock∨v8'.ownBlock=some wr.heap.size):CR w w' fv v6 v7 v8' ds xs (ys++[x]):=by
 refine ⟨h.b0.grown hg fun e => ?_,h.o6.kept hg h.a68.ne,h.o7.kept hg h.a78.ne,by simpa using ho,h.a67,h.a68.append (fun g e=>(h.o6.lt g e).2) hat,h.a78.append (fun g e=>(h.o7.lt g e).2) hat,qA h.hi hg.size,h.bl.grown hg h.bl.size fun g e => ?_⟩
 ·have:=(h.o8.lt _ e.symm).1;omega
 ·have:=(h.o8.lt g e).1;omega
end
set_option maxRecDepth 100000 in
set_option maxHeartbeats 2000000 in
theorem sM (i j av cv lv:Value) (atoms:List Diff) (lits:List Int) (w:World) (ha:Diffs w av atoms) (hl:Ints w lv lits) (hok:OkC atoms) (hn:lits.length≤1000000) (hat:atoms.length≤1000000) :
  Calls Try.prog 74 #[.agg #[i,j,av,cv],lv] w (ClRet w (cyc atoms lits)):=by
 obtain ⟨A,c,rfl,h1,h2,h3,hr⟩:=hl
 unfold maxLen at h2
 have HA:=Lib.hid ha
 have HX:=Lib.hid h3
 have HR:=Lib.hid hr
 have HOK:=Lib.hid hok
 have HAT:=Lib.hid hat
 obtain ⟨Aa,ca,rfl, -, -, -, -⟩:=ha
 obtain ⟨iD,hiD,hzD0,hzD1,hzD2⟩:=qC eU
 obtain ⟨iI,hiI,hzI0,hzI1,hzI2⟩:=qC gP
 clear h3 hr hok hat
 go_enter Try.func74,Try.ntmps74
 go_wp2_with fail
 have hCR:CR w (w.alloc (.cells #[i,j, .slice Aa atoms.length ca,cv] 29)) #[i,j, .slice Aa atoms.length ca,cv] (.slice none 0 0) (.slice none 0 0) (.slice none 0 0) [] [] [] :=
  ⟨Blk.new _ _ _,qE _ _ _ _,qE _ _ _ _,qE _ _ _ _,Apart.nil_left _,Apart.nil_left _,Apart.nil_left _,by simp,by go_grown⟩
 generalize w.alloc (.cells #[i,j, .slice Aa atoms.length ca,cv] 29)=W at *
 have HCR:=Lib.hid hCR
 clear hCR
 go_loopw [6,7,8,15] (fun v6 v7 v8 i_ wr=>∃(k:Nat) (ds:List Diff),k≤lits.length∧i_ = .int .i64 k∧ds.length=k∧(lits.take k).map (bound atoms)=ds.map some∧CR w wr #[i,j, .slice Aa atoms.length ca,cv] v6 v7 v8 ds (rV k) ((lits.take k).map (fun x => -x))) (fun _ _ _ i_ _=>lits.length-(intOf i_).toNat)
 case atStart=>exact ⟨0,[],by omega,rfl,rfl,rfl,HCR.out⟩
 case round =>
  obtain ⟨k,ds,hk,rfl,hds,hbn,hcs⟩:=hrel
  generalize hys:(lits.take k).map (fun x => -x)=ys at hcs
  have HYS:=Lib.hid hys
  clear hys
  have H1:=Lib.hid hcs
  have HDS:=Lib.hid hds
  have HBN:=Lib.hid hbn
  have q0:=hcs.b0.cell 0
  have q1:=hcs.b0.cell 1
  have q2:=hcs.b0.cell 2
  have q3:=hcs.b0.cell 3
  simp only [zA,zB,zC] at q0 q1 q2 q3
  clear hcs hds hbn
  by_cases hlt:k<lits.length
  ·obtain ⟨x,hxk⟩:∃x,lits[k]? = some x:=⟨_,List.getElem?_eq_getElem hlt⟩
   obtain ⟨b1,o1,rfl,hb1,hc1⟩:=(HR.out.keep H1.out.bl).int hxk
   have HXK:=Lib.hid hxk
   have HIX:=Lib.hid (HX.out x (List.mem_of_getElem? hxk))
   clear hxk
   go_wp2_with fail
   refine (rbound_any _ _ _ _ atoms _ x (HA.out.keep H1.out.bl) (fun d hd=>by have:=(HOK.out d hd).2.1;omega) HIX.out).mono ?_
   rintro e w2 ⟨rfl,hb2⟩
   have H2:=Lib.hid (H1.out.keep hb2)
   clear hb2 q0 q1 q2 q3
   cases hbd:bound atoms x with
   | none =>
    have HC:Hid (cyc atoms lits=none):=by
     refine Lib.hid ?_
     unfold cyc;rw [bnds_none (List.mem_of_getElem? HXK.out) hbd]
    rw [show boundVal none = .tuple #[.agg #[.int .i64 0, .int .i64 0, .int .i64 0], .bool false] from rfl]
    clear hbd
    go_wp2_with fail
    go_ret2
    exact ClRet.no HC.out (by have:=H2.out.bl;exact this.alloc this.size _)
   | some d =>
    rw [show boundVal (some d) = .tuple #[.agg #[.int .i64 d.x, .int .i64 d.y, .int .i64 d.c], .bool true] from rfl]
    have HBD:=Lib.hid hbd
    have hx0:x ≠ -9223372036854775808:=by
     rcases eT hbd with h|h
     ·exact h
     ·have:=HAT.out;omega
    have hx1 : -9223372036854775807≤x:=by have:=HIX.out.1;omega
    have hx2:x≤9223372036854775807:=HIX.out.2
    clear hbd hx0
    have H3:Hid (CR w (w2.alloc (.cells #[.int .i64 d.x, .int .i64 d.y, .int .i64 d.c] 50)) #[i,j, .slice Aa atoms.length ca,cv] u6 u7 u8 ds (rV k) ys):=H2.out.keep (by go_grown)
    obtain ⟨A6,c6,e6, -, -, -⟩:=wQ H3.out.o6
    obtain ⟨A7,c7,e7, -, -, -⟩:=wQ H3.out.o7
    obtain ⟨A8,c8,e8, -, -, -⟩:=wQ H3.out.o8
    subst e6 e7 e8
    have hdl:=HDS.out
    have hil:=bD k
    have hll:ys.length=k:=by rw [←HYS.out];simp;omega
    have HDL:=Lib.hid hdl
    have HIL:=Lib.hid hil
    have HLL:=Lib.hid hll
    clear hdl hil hll
    go_wp2_with (at_builtin;refine zX _ rfl _ _ 26 rfl (w.heap.size+1) 50 iD (.agg #[.int .i64 0, .int .i64 0, .int .i64 0]) 3 24 Try.underlying26 hiD hzD0 hzD1 hzD2 rfl (by decide) _ _ _ rfl (H3.out.o6.alloc _) ⟨w2.heap.size+1,0,none⟩ 1 1 [.int .i64 d.x, .int .i64 d.y, .int .i64 d.c] rfl rfl ?a1 ?a2 ?a3 ?a4 ?a5 ?_)
    case a1=>exact gQ (w2.alloc (.cells #[.int .i64 d.x, .int .i64 d.y, .int .i64 d.c] 50)) _ [.int .i64 d.x, .int .i64 d.y, .int .i64 d.c] (by simp)
    case a2=>intro u hu;simp at hu;rcases hu with rfl|rfl|rfl<;>rfl
    case a3=>rw [HDL.out];unfold maxLen;omega
    case a4=>rw [HDL.out];omega
    case a5=>have:=H3.out.hi;simp at this ⊢;omega
    intro v6' w4 hown' hgrow _ hat
    have H4:=Lib.hid ((H3.out.keep (by go_grown)).push6 (d:=d) hown' hgrow (by simpa using hat))
    obtain ⟨A6',c6',e6, -, -, -⟩:=wQ hown'
    subst e6
    clear hown' hgrow hat
    go_wp2_with (at_builtin;refine zX _ rfl _ _ 33 rfl (w.heap.size+1) 3 iI (.int .i64 0) 1 8 Try.underlying33 hiI hzI0 hzI1 hzI2 rfl (by decide) _ _ _ rfl (H4.out.o7.alloc _) ⟨w4.heap.size,0,none⟩ 1 1 [.int .i64 (k:Int)] rfl rfl ?b1 ?b2 ?b3 ?b4 ?b5 ?_)
    case b1=>exact gN w4 _ _
    case b2=>intro u hu;simp at hu;subst hu;rfl
    case b3=>rw [HIL.out];unfold maxLen;omega
    case b4=>rw [HIL.out];omega
    case b5=>have:=H4.out.hi;simp;omega
    intro v7' w5 hown' hgrow _ hat
    have H5:=Lib.hid ((H4.out.keep (by go_grown)).push7 (x:=(k:Int)) hown' hgrow (by simpa using hat))
    obtain ⟨A7',c7',e7, -, -, -⟩:=wQ hown'
    subst e7
    clear hown' hgrow hat
    go_wp2_with (at_builtin;refine zX _ rfl _ _ 33 rfl (w.heap.size+1) 3 iI (.int .i64 0) 1 8 Try.underlying33 hiI hzI0 hzI1 hzI2 rfl (by decide) _ _ _ rfl (H5.out.o8.alloc _) ⟨w5.heap.size,0,none⟩ 1 1 [.int .i64 (-x)] rfl rfl ?c1 ?c2 ?c3 ?c4 ?c5 ?_)
    case c1=>exact gN w5 _ _
    case c2=>intro u hu;simp at hu;subst hu;rfl
    case c3=>rw [HLL.out];unfold maxLen;omega
    case c4=>rw [HLL.out];omega
    case c5=>have:=H5.out.hi;simp;omega
    intro v8' w6 hown' hgrow _ hat
    have H6:=Lib.hid ((H5.out.keep (by go_grown)).push8 (x := -x) hown' hgrow (by simpa using hat))
    obtain ⟨A8',c8',e8, -, -, -⟩:=wQ hown'
    subst e8
    clear hown' hgrow hat
    have H7:Hid (CR w w6 #[i,j, .slice Aa atoms.length ca,cv] (.slice A6' (ds.length+1) c6') (.slice A7' ((rV k).length+1) c7') (.slice A8' (ys.length+1) c8') (ds++[d]) (rV (k+1)) ((lits.take (k+1)).map (fun x => -x))):=by
     have h:=H6.out
     rw [sZ,gC HXK.out,List.map_append,HYS.out]
     exact h
    go_wp2_with fail
    go_roundw
    case rel=>exact ⟨k+1,ds++[d],by omega,by go_num,by simp [HDS.out],pK HBN.out HXK.out HBD.out,H7.out⟩
    case measure=>simp [intOf];omega
  ·obtain rfl:k=lits.length:=by omega
   have HBS:Hid (lB atoms lits=some ds):=bA.2 (by have h:=HBN.out;rwa [qQ] at h)
   have hdok:=bnds_ok HOK.out (by have h:=HBN.out;rwa [qQ] at h)
   have HDO:=Lib.hid hdok
   have hD:=aR H1.out.o6 (fun d hd=>(HDO.out d hd).1)
   have hI:Ints wr u7 (rV lits.length):=Own.ints (base:=w.heap.size+1) ⟨H1.out.o7,fun x hx=>by obtain ⟨q,hq,rfl⟩:=List.mem_map.1 hx;have:=jP.1 hq;constructor<;>omega⟩
   have HD1:=Lib.hid hD
   have HI1:=Lib.hid hI
   have HO8:Hid (wr.ownsRow (w.heap.size+1) 3 1 u8 (lits.map (fun x => -x)).length ((lits.map (fun x => -x)).map (Value.int .i64))):=by
    have h:=H1.out.o8
    rw [←HYS.out,qQ] at h
    exact h
   clear hD hI hdok q0 q1 q2 q3
   go_wp2_with fail
   refine (rcycle_any _ _ ds _ HD1.out (by rw [HDS.out];exact HI1.out) (fun d hd=>(HDO.out d hd).2) (by rw [HDS.out];exact hn)).mono ?_
   rintro e w2 ⟨rfl,hb2⟩
   have H2:=Lib.hid (H1.out.bl.trans (hb2.mono H1.out.bl.size))
   have HN2:=Lib.hid (bZ HO8.out hb2)
   clear hb2
   cases hcy:cycB ds with
   | false =>
    have HC:Hid (cyc atoms lits=none):=by
     refine Lib.hid ?_
     unfold cyc;rw [HBS.out];simp [hcy]
    clear hcy
    simp only
    go_wp2_with fail
    go_ret2
    exact ClRet.no HC.out H2.out
   | true =>
    have HC:Hid (cyc atoms lits=gB (lits.map (fun x => -x))):=by
     refine Lib.hid ?_
     unfold cyc;rw [HBS.out];simp [hcy]
    clear hcy
    have hI2:Ints w2 u8 (lits.map (fun x => -x)):=by
     refine Own.ints (base:=w.heap.size+1) ⟨HN2.out,fun y hy => ?_⟩
     obtain ⟨x,hx,rfl⟩:=List.mem_map.1 hy
     exact neg_i64 HBS.out hx (HX.out x hx) HAT.out
    have HI2:=Lib.hid hI2
    clear hI2
    simp only
    go_wp2_with fail
    refine (eL _ (lits.map (fun x => -x)) _ HI2.out (by simp;omega)).mono ?_
    intro e w3 hnr
    have hcl:=NormRet.cl (w:=w) hnr HC.out H2.out
    clear hnr
    obtain ⟨v,rfl,h5,h6⟩:=hcl
    have H5:=Lib.hid h5
    have H6:=Lib.hid h6
    clear h5 h6
    go_wp2_with fail
    go_ret2
    exact ⟨v,rfl,H5.out,H6.out⟩
end Go.Proofs.Yticieifacalocaa
