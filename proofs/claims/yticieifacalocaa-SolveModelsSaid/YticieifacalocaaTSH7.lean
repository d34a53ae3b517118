/- NormalRef -/
import Derived.Test.YticieifacalocaaTSH5
namespace Go.Proofs.Yticieifacalocaa
open Go.RowKit
theorem bQ (x:Int) (w:World) (hx:I64 x) (h0:x ≠ -9223372036854775808) :
  Calls Try.prog 48 #[.int .i64 x] w fun e w'=>e = .returned (.int .i64 (x.natAbs:Nat))∧w=w':=by
 by_cases h:0≤x
 ·have e:((x.natAbs:Nat):Int)=x:=by omega
  rw [e];exact abs_nonneg x w h
 ·have e:((x.natAbs:Nat):Int) = -x:=by omega
  rw [e];exact abs_neg x w (by omega) (by have:=hx.1;omega)
theorem insAbs_end {x:Int} {l:List Int} (h:∀y∈l,y.natAbs<x.natAbs):gL x l=some (l++[x]):=by
 induction l with
 | nil=>rfl
 | cons y r ih =>
  rw [gL,if_pos (h y (by simp)),ih fun z hz=>h z (by simp [hz])];rfl
theorem insAbs_at {x:Int} {l:List Int} {j:Nat} {y:Int} (h:∀z∈l.take j,z.natAbs<x.natAbs) (hy:l[j]? = some y) (hn:¬y.natAbs<x.natAbs) :
  gL x l=if y=x then some l else if y = -x then none else some (l.take j++x::l.drop j):=by
 induction l generalizing j with
 | nil=>simp at hy
 | cons a r ih =>
  cases j with
  | zero =>
   simp at hy
   subst hy
   rw [gL,if_neg hn]
   simp
  | succ j =>
   rw [gL,if_pos (h a (by simp)),ih (j:=j) (fun z hz=>h z (by simp [hz])) (by simpa using hy)]
   split
   ·rfl
   ·split<;>simp
theorem lS {xs l:List Int} {k:Nat} {x:Int} (hk:xs[k]? = some x) (h:wJ (xs.take k)=some l) (hb:wS x=false):wJ (xs.take (k+1))=gL x l:=by
 rw [wL hk,norm_snoc,h]
 simp [dQ,hb]
theorem iN {xs:List Int} {k:Nat} (h:wJ (xs.take k)=none):wJ xs=none:=by
 have hs:=gD (xs.take k)
 rw [h] at hs
 refine dX ?_
 rcases hs with ⟨x,hx,hb⟩|⟨x,hx,ho,h0⟩
 ·exact .inl ⟨x,zN hx,hb⟩
 ·exact .inr ⟨x,zN hx,zN ho,h0⟩
theorem wrap_min:((-9223372036854775808:Int) == wrap64 9223372036854775808)=true:=by kernel_rfl
set_option maxRecDepth 100000 in
set_option maxHeartbeats 2000000 in
theorem cP (v:Value) (xs:List Int) (w:World) (hv:Ints w v xs) (hlen:xs.length≤1000000) :
  Calls Try.prog 71 #[v] w (NormRet w xs):=by
 obtain ⟨A,c,rfl,hl,hm,hx,hr⟩:=hv
 obtain ⟨i0,hi,hz0,hz1,hz2⟩:=qD wV
 have HX:=Lib.hid hx
 have HR:=Lib.hid hr
 have HLEN:=Lib.hid hlen
 have hlenI:(xs.length:Int)≤1000000:=by omega
 clear hx hr hlen hm
 go_enter Try.func71,Try.ntmps71
 go_wp2_with fail
 go_loopw [4,11] (fun r i wr=>∃(k:Nat) (l:List Int),k≤xs.length∧i = .int .i64 k∧wJ (xs.take k)=some l∧wr.ownsRow w.heap.size 3 1 r l.length (l.map (Value.int .i64))∧Below w.heap.size w wr) (fun _ i _=>xs.length-(intOf i).toNat)
 case atStart=>exact ⟨0,[],by omega,rfl,rfl,qE _ _ _ _,zR _ _⟩
 case round =>
  obtain ⟨k,l,hk,rfl,hnorm,hown,hbw⟩:=hrel
  have HN:=Lib.hid hnorm
  have HOWN:=Lib.hid hown
  have HBW:=Lib.hid hbw
  clear hnorm hown hbw
  obtain ⟨A1,cap1,rfl⟩:=bK HOWN.out
  by_cases hlt:k<xs.length
  ·obtain ⟨x,hxk⟩:∃x,xs[k]? = some x:=⟨_,List.getElem?_eq_getElem hlt⟩
   obtain ⟨b1,o1,rfl,hb1,hc1⟩:=(HR.out.keep HBW.out).int hxk
   have HXK:=Lib.hid hxk
   clear hxk
   by_cases hb0:wS x=true
   ·have HNN:=Lib.hid (fW HXK.out hb0)
    have hor:x=0∨x = -9223372036854775808:=by simpa [wS] using hb0
    clear hb0
    rcases hor with rfl|rfl
    ·go_wp2_with fail
     go_ret2
     exact dC HNN.out HBW.out
    ·have hmin:=wrap_min
     go_wp2_with fail
     go_ret2
     exact dC HNN.out HBW.out
   ·have hb1':wS x=false:=by simpa using hb0
    have hxI:=HX.out x (List.mem_of_getElem? HXK.out)
    have hxm:x ≠ -9223372036854775808:=by intro h;subst h;simp [wS] at hb1'
    have hx0:=dT hb1'
    obtain ⟨hx1,hx2⟩:=hxI
    have hx3 : -9223372036854775807≤x:=by omega
    have e1:(x == 0)=false:=by simpa using hx0
    have e2:(x == -x)=false:=by simp;omega
    have HS:=Lib.hid (lS HXK.out HN.out hb1')
    have HXM:=Lib.hid hxm
    have HX0:=Lib.hid hx0
    clear hb0 hb1' hx1 hxm hx0
    have hll:l.length≤k:=by
     have h1:=oO HN.out
     have h2:=vA k xs
     omega
    have HLI:=Lib.hid (rS HN.out (P:=fun z=>I64 z) fun z hz=>HX.out z (zN hz))
    have HLB:=Lib.hid (by have hs:=gD (xs.take k);rw [HN.out] at hs;exact fun z hz=>hs.2.2 z ((hs.2.1 z).1 hz):∀z∈l,wS z=false)
    have HRL:=Lib.hid (Own.ints (base:=w.heap.size) ⟨HOWN.out,HLI.out⟩)
    go_wp2_with fail
    go_loop [7] (fun i=>∃j:Nat,j≤l.length∧i = .int .i64 j∧∀z∈l.take j,z.natAbs<x.natAbs) (fun i=>l.length-(intOf i).toNat)
    case atStart=>exact ⟨0,by omega,rfl,by simp⟩
    case round =>
     obtain ⟨j,hj,rfl,hsm⟩:=hrel
     have HSM:=Lib.hid hsm
     clear hsm
     by_cases hjl:j<l.length
     ·obtain ⟨y,hy⟩:∃y,l[j]? = some y:=⟨_,List.getElem?_eq_getElem hjl⟩
      obtain ⟨A3,c3,hv3,_,_,_,hr3⟩:=HRL.out
      injection hv3 with hv4 _ hv5
      subst hv4 hv5
      obtain ⟨b2,o2,rfl,hb2,hc2⟩:=hr3.int hy
      have HY:=Lib.hid hy
      have HYI:=Lib.hid (HLI.out y (List.mem_of_getElem? hy))
      have HYB:Hid (y ≠ -9223372036854775808):=by intro h;subst h;have:=HLB.out _ (List.mem_of_getElem? hy);simp [wS] at this
      clear hy hr3
      by_cases hlt3:y.natAbs<x.natAbs
      ·have hdec:decide (((y.natAbs:Nat):Int)<((x.natAbs:Nat):Int))=true:=by simp;omega
       go_wp2_with fail
       refine (bQ y _ HYI.out HYB.out).mono ?_
       rintro e w' ⟨rfl,rfl⟩
       go_wp2_with fail
       refine (bQ x _ ⟨by omega,by omega⟩ HXM.out).mono ?_
       rintro e w' ⟨rfl,rfl⟩
       go_wp2_with fail
       go_round
       case rel =>
        refine ⟨j+1,by omega,by go_num,?_⟩
        rw [wL HY.out]
        intro z hz
        rcases zK.1 hz with hz|hz
        ·exact HSM.out z hz
        ·simp at hz;subst hz;exact hlt3
       case measure=>simp [intOf];omega
      ·have hdec:decide (((y.natAbs:Nat):Int)<((x.natAbs:Nat):Int))=false:=by simp;omega
       have HINS:=Lib.hid (insAbs_at HSM.out HY.out hlt3)
       by_cases hyx:y=x
       ·have hyb:(y == x)=true:=by simp [hyx]
        have HR2:Hid (wJ (xs.take (k+1))=some l):=by
         have h:=HINS.out
         rw [if_pos hyx] at h
         exact HS.out.trans h
        clear hyx
        go_wp2_with fail
        refine (bQ y _ HYI.out HYB.out).mono ?_
        rintro e w' ⟨rfl,rfl⟩
        go_wp2_with fail
        refine (bQ x _ ⟨by omega,by omega⟩ HXM.out).mono ?_
        rintro e w' ⟨rfl,rfl⟩
        go_wp2_with fail
        refine ⟨⟨k+1,l,by omega,by go_num,HR2.out,HOWN.out,HBW.out⟩,by simp [intOf];omega⟩
       ·have hyb:(y == x)=false:=by simp [hyx]
        by_cases hyn:y = -x
        ·have hyc:(y == -x)=true:=by simp [hyn]
         have HR2:Hid (wJ xs=none):=by
          have h:=HINS.out
          rw [if_neg hyx,if_pos hyn] at h
          exact iN (HS.out.trans h)
         clear hyx hyn
         go_wp2_with fail
         refine (bQ y _ HYI.out HYB.out).mono ?_
         rintro e w' ⟨rfl,rfl⟩
         go_wp2_with fail
         refine (bQ x _ ⟨by omega,by omega⟩ HXM.out).mono ?_
         rintro e w' ⟨rfl,rfl⟩
         go_wp2_with fail
         go_ret2
         exact dC HR2.out HBW.out
        ·have hyc:(y == -x)=false:=by simp [hyn]
         have HR2:Hid (wJ (xs.take (k+1))=some (l.take j++x::l.drop j)):=by
          have h:=HINS.out
          rw [if_neg hyx,if_neg hyn] at h
          exact HS.out.trans h
         clear hyx hyn
         go_wp2_with fail
         refine (bQ y _ HYI.out HYB.out).mono ?_
         rintro e w' ⟨rfl,rfl⟩
         go_wp2_with fail
         refine (bQ x _ ⟨by omega,by omega⟩ HXM.out).mono ?_
         rintro e w' ⟨rfl,rfl⟩
         go_wp2_with (first
          | (at_builtin;refine bW _ rfl (.tmp 65) (.tmp 68) 33 rfl wr.heap.size 3 i0 (.int .i64 0) 1 8 Try.underlying33 hi hz0 hz1 hz2 rfl (by decide) _ 1 [.int .i64 x] rfl ?c1 _ (l.length-j) _ ((l.drop j).map (Value.int .i64)) rfl ?c2 ?c3 ?c4 ?c5 ?c6 ?c7 ?_))
         case c1=>exact World.ownsRow_lit wr #[.int .i64 x] 1 (Nat.le_refl _) (by simp [maxLen]) rfl
         case c2=>simp
         case c3 =>
          intro _
          refine ⟨b2,o2+j,rfl,by simp;omega,fun q u hu => ?_⟩
          rw [List.map_drop,yW] at hu
          obtain ⟨_,_,hv3,_,_,_,hr3⟩:=HRL.out
          injection hv3 with hv4
          obtain ⟨b3,o3,hA3,hb3,hc3⟩:=hr3.at_ hu
          rw [←hv4] at hA3
          injection hA3 with hA3
          injection hA3 with z1 z2
          subst z1 z2
          rw [World.cell?_alloc_lt _ _ _ hb3,show o2+j+q=o2+(j+q) by omega]
          exact hc3
         case c4=>intro u hu;obtain ⟨_,_,rfl⟩:=List.mem_map.1 hu;rfl
         case c5=>unfold maxLen;omega
         case c6=>omega
         case c7=>simp
         intro v1 w1 hown1 hg1 hat1
         obtain ⟨g1,capg,rfl,hg1b,hg1l,_,_⟩:=lT hown1 (by omega)
         have hb1w:Below wr.heap.size wr w1:=by
          refine ((zR _ _).alloc (Nat.le_refl _) _).grown hg1 (by simp) (fun q hq => ?_)
          simp [Value.ownBlock] at hq
          omega
         have HB1W:=Lib.hid hb1w
         have HO1:=Lib.hid hown1
         clear hown1 hg1 hat1 hb1w
         go_wp2_with (first
          | (at_builtin;refine wpList_append_grows _ rfl (.tmp 73) (.tmp 74) 33 rfl 3 i0 (.int .i64 0) 1 8 Try.underlying33 hi hz0 hz1 hz2 rfl (by decide) _ j j ((l.take j).map (Value.int .i64)) rfl ?d1 ?d2 ?d3 ⟨g1,0,none⟩ (1+(l.length-j)) capg ([.int .i64 x]++(l.drop j).map (Value.int .i64)) rfl ?d4 ?d5 ?d6 ?d7 ?d8 ?d9 ?_))
         case d1=>intro h;cases h
         case d2=>simp;omega
         case d3 =>
          intro ad had q u hu
          injection had with had
          subst had
          have hu2:(l.map (Value.int .i64))[q]? = some u:=by
           rw [jM,qX] at hu
           split at hu
           ·exact hu
           ·cases hu
          obtain ⟨_,_,hv3,_,_,_,hr3⟩:=HRL.out
          injection hv3 with hv4
          have hr4:=hr3.keep HB1W.out
          exact hr4.adds w1 hv4.symm q u hu2
         case d4=>simp;omega
         case d5 =>
          intro q u hu
          rw [List.map_drop] at hu
          exact HO1.out.cells (g:=g1) rfl q u hu
         case d6 =>
          intro u hu
          rcases zK.1 hu with hu|hu
          ·simp at hu;subst hu;rfl
          ·obtain ⟨_,_,rfl⟩:=List.mem_map.1 hu;rfl
         case d7=>omega
         case d8=>unfold maxLen;omega
         case d9=>omega
         intro v2 w2 hown2 hg2
         have HO2:Hid (w2.ownsRow w.heap.size 3 1 v2 (l.take j++x::l.drop j).length ((l.take j++x::l.drop j).map (Value.int .i64))):=by
          have hle:w.heap.size≤w1.heap.size:=qA HBW.out.size HB1W.out.size
          have h:=aK hown2 hle
          have hlen2:(l.take j++x::l.drop j).length=j+(1+(l.length-j)):=by simp;omega
          rw [hlen2]
          have h2:(l.take j++x::l.drop j).map (Value.int .i64)=(l.map (Value.int .i64)).take j ++ .int .i64 x::(l.map (Value.int .i64)).drop j:=by simp
          rw [h2]
          exact h
         have HB2:Hid (Below w.heap.size w w2):=by
          refine (HBW.out.trans (HB1W.out.mono HBW.out.size)).grown hg2 (qA HBW.out.size HB1W.out.size) (fun q hq=>by cases hq)
         clear hown2 hg2
         go_wp2_with fail
         refine ⟨⟨k+1,_,by omega,by go_num,HR2.out,HO2.out,HB2.out⟩,by simp [intOf];omega⟩
     ·obtain rfl:j=l.length:=by omega
      have HINS:=Lib.hid (insAbs_end (x:=x) (l:=l) (by have h:=HSM.out;rwa [yC] at h))
      have HR2:Hid (wJ (xs.take (k+1))=some (l++[x])):=HS.out.trans HINS.out
      have hcap:l.length≤cap1∧(A1=none→l.length=0):=by
       rcases HOWN.out.2 with ⟨h1,h2⟩|⟨g,cap,cur,h1,_,_,h4,_⟩
       ·injection h1 with h1 _ h3
        subst h1 h3
        exact ⟨by omega,fun _=>h2⟩
       ·injection h1 with h1 _ h3
        subst h1 h3
        exact ⟨h4,fun h=>by cases h⟩
      have HNONE:=Lib.hid hcap.2
      have hcap1:=hcap.1
      clear hcap
      by_cases hce:cap1=l.length
      all_goals
       go_wp2_with (first
        | (at_builtin;refine bW _ rfl (.tmp 65) (.tmp 68) 33 rfl wr.heap.size 3 i0 (.int .i64 0) 1 8 Try.underlying33 hi hz0 hz1 hz2 rfl (by decide) _ 1 [.int .i64 x] rfl ?c1 _ 0 _ [] rfl ?c2 ?c3 ?c4 ?c5 ?c6 ?c7 ?_))
       case c1=>exact World.ownsRow_lit wr #[.int .i64 x] 1 (Nat.le_refl _) (by simp [maxLen]) rfl
       case c3=>exact Rd.nil _ _
       case c5=>unfold maxLen;omega
       intro v1 w1 hown1 hg1 hat1
       obtain ⟨g1,capg,rfl,hg1b,hg1l,_,_⟩:=lT hown1 (by omega)
       have hb1w:Below wr.heap.size wr w1:=by
        refine ((zR _ _).alloc (Nat.le_refl _) _).grown hg1 (by simp) (fun q hq => ?_)
        simp [Value.ownBlock] at hq
        omega
       have HB1W:=Lib.hid hb1w
       have HO1:=Lib.hid hown1
       clear hown1 hg1 hat1 hb1w
       go_wp2_with (first
        | (at_builtin;refine wpList_append_grows _ rfl (.tmp 73) (.tmp 74) 33 rfl 3 i0 (.int .i64 0) 1 8 Try.underlying33 hi hz0 hz1 hz2 rfl (by decide) A1 l.length l.length (l.map (Value.int .i64)) rfl ?d1 ?d2 ?d3 ⟨g1,0,none⟩ 1 capg [.int .i64 x] rfl ?d4 ?d5 ?d6 ?d7 ?d8 ?d9 ?_))
       case d1=>exact fun h=>⟨HNONE.out h,HNONE.out h⟩
       case d2=>simp
       case d3 =>
        intro ad had q u hu
        obtain ⟨_,_,hv3,_,_,_,hr3⟩:=HRL.out
        injection hv3 with hv4
        have hr4:=hr3.keep HB1W.out
        exact hr4.adds w1 (hv4.symm.trans had) q u hu
       case d4=>simp
       case d5=>exact fun q u hu=>HO1.out.cells (g:=g1) rfl q u hu
       case d6=>intro u hu;simp at hu;subst hu;rfl
       case d7=>omega
       case d8=>unfold maxLen;omega
       case d9=>omega
       intro v2 w2 hown2 hg2
       have HO2:Hid (w2.ownsRow w.heap.size 3 1 v2 (l++[x]).length ((l++[x]).map (Value.int .i64))):=by
        have hle:w.heap.size≤w1.heap.size:=qA HBW.out.size HB1W.out.size
        have h:=aK hown2 hle
        have hlen2:(l++[x]).length=l.length+1:=by simp
        rw [hlen2,List.map_append]
        exact h
       have HB2:Hid (Below w.heap.size w w2):=by
        refine (HBW.out.trans (HB1W.out.mono HBW.out.size)).grown hg2 (qA HBW.out.size HB1W.out.size) (fun q hq=>by cases hq)
       clear hown2 hg2
       go_wp2_with fail
       refine ⟨⟨k+1,_,by omega,by go_num,HR2.out,HO2.out,HB2.out⟩,by simp [intOf];omega⟩
  ·have HT:Hid (wJ xs=some l):=by have h:=HN.out;rwa [zU (by omega)] at h
   go_wp2_with fail
   go_ret2
   refine ⟨_,by rw [HT.out];rfl,?_,HBW.out⟩
   rw [HT.out]
   exact ⟨HOWN.out,rS HT.out HX.out⟩
end Go.Proofs.Yticieifacalocaa
