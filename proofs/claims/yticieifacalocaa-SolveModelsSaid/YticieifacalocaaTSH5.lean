/- Normal -/
import Derived.Test.YticieifacalocaaTSH4
namespace Go.Proofs.Yticieifacalocaa
open Go.RowKit
theorem gH (x:Int) (n:Nat) (w:World) (h:x.natAbs=n+1) (hx:I64 x) :
  Calls Try.prog 79 #[.int .i64 x] w fun e w'=>e = .returned (.int .i64 (n:Int))∧w=w':=by
 have hv:varOf x=(n:Int):=by
  unfold varOf
  split
  ·omega
  ·split<;>omega
 have:=oB x w hx
 rw [hv] at this
 exact this
theorem sU (x y:Int) (n m:Nat) (w:World) (hx:I64 x) (hy:I64 y) (hn:x.natAbs=n+1) (hm:y.natAbs=m+1) (h:n≠m) (hx0:n+1≤9223372036854775807) (hy0:m+1≤9223372036854775807) :
  Calls Try.prog 78 #[.int .i64 x, .int .i64 y] w fun e w'=>e = .returned (.int .i64 ((n:Int)-m))∧w=w':=by
 have HN:=Lib.hid hn
 have HM:=Lib.hid hm
 have HX:=Lib.hid hx
 have HY:=Lib.hid hy
 obtain ⟨hx1,hx2⟩:=hx
 obtain ⟨hy1,hy2⟩:=hy
 have hn1:(n:Int)≤9223372036854775807:=by omega
 have hm1:(m:Int)≤9223372036854775807:=by omega
 have hb:((n:Int) != (m:Int))=true:=by simp;omega
 clear hn hm
 go_enter Try.func78,Try.ntmps78
 go_wp2_with fail
 refine (gH x n _ HN.out HX.out).mono ?_
 rintro e w' ⟨rfl,rfl⟩
 go_wp2_with fail
 refine (gH y m _ HM.out HY.out).mono ?_
 rintro e w' ⟨rfl,rfl⟩
 go_wp2_with fail
 go_ret
 exact ⟨rfl,rfl⟩
theorem closure_lt (x y:Int) (n m:Nat) (w:World) (hx:I64 x) (hy:I64 y) (hn:x.natAbs=n+1) (hm:y.natAbs=m+1) (h:n=m) (hxy:x<y) :
  Calls Try.prog 78 #[.int .i64 x, .int .i64 y] w fun e w'=>e = .returned (.int .i64 (-1))∧w=w':=by
 have HN:=Lib.hid hn
 have HM:=Lib.hid hm
 have HX:=Lib.hid hx
 have HY:=Lib.hid hy
 obtain ⟨hx1,hx2⟩:=hx
 obtain ⟨hy1,hy2⟩:=hy
 have hn1:(n:Int)≤9223372036854775807:=by omega
 have hm1:(m:Int)≤9223372036854775807:=by omega
 have hb:((n:Int) != (m:Int))=false:=by simp;omega
 clear h
 clear hn hm
 go_enter Try.func78,Try.ntmps78
 go_wp2_with fail
 refine (gH x n _ HN.out HX.out).mono ?_
 rintro e w' ⟨rfl,rfl⟩
 go_wp2_with fail
 refine (gH y m _ HM.out HY.out).mono ?_
 rintro e w' ⟨rfl,rfl⟩
 go_wp2_with fail
 go_ret
 exact ⟨rfl,rfl⟩
theorem closure_gt (x y:Int) (n m:Nat) (w:World) (hx:I64 x) (hy:I64 y) (hn:x.natAbs=n+1) (hm:y.natAbs=m+1) (h:n=m) (hxy:y<x) :
  Calls Try.prog 78 #[.int .i64 x, .int .i64 y] w fun e w'=>e = .returned (.int .i64 1)∧w=w':=by
 have HN:=Lib.hid hn
 have HM:=Lib.hid hm
 have HX:=Lib.hid hx
 have HY:=Lib.hid hy
 obtain ⟨hx1,hx2⟩:=hx
 obtain ⟨hy1,hy2⟩:=hy
 have hn1:(n:Int)≤9223372036854775807:=by omega
 have hm1:(m:Int)≤9223372036854775807:=by omega
 have hb:((n:Int) != (m:Int))=false:=by simp;omega
 clear h
 clear hn hm
 go_enter Try.func78,Try.ntmps78
 go_wp2_with fail
 refine (gH x n _ HN.out HX.out).mono ?_
 rintro e w' ⟨rfl,rfl⟩
 go_wp2_with fail
 refine (gH y m _ HM.out HY.out).mono ?_
 rintro e w' ⟨rfl,rfl⟩
 go_wp2_with fail
 go_ret
 exact ⟨rfl,rfl⟩
theorem closure_eq (x y:Int) (n m:Nat) (w:World) (hx:I64 x) (hy:I64 y) (hn:x.natAbs=n+1) (hm:y.natAbs=m+1) (h:n=m) (hxy:x=y) :
  Calls Try.prog 78 #[.int .i64 x, .int .i64 y] w fun e w'=>e = .returned (.int .i64 0)∧w=w':=by
 have HN:=Lib.hid hn
 have HM:=Lib.hid hm
 have HX:=Lib.hid hx
 have HY:=Lib.hid hy
 obtain ⟨hx1,hx2⟩:=hx
 obtain ⟨hy1,hy2⟩:=hy
 have hn1:(n:Int)≤9223372036854775807:=by omega
 have hm1:(m:Int)≤9223372036854775807:=by omega
 have hb:((n:Int) != (m:Int))=false:=by simp;omega
 have h1:¬x<y:=by omega
 have h2:¬y<x:=by omega
 clear h hxy
 clear hn hm
 go_enter Try.func78,Try.ntmps78
 go_wp2_with fail
 refine (gH x n _ HN.out HX.out).mono ?_
 rintro e w' ⟨rfl,rfl⟩
 go_wp2_with fail
 refine (gH y m _ HM.out HY.out).mono ?_
 rintro e w' ⟨rfl,rfl⟩
 go_wp2_with fail
 go_ret
 exact ⟨rfl,rfl⟩
theorem rM (x y:Lit1) (w:World) :
  Calls Try.prog 78 #[.int .i64 x.val, .int .i64 y.val] w fun e w'=>e = .returned (.int .i64 (cmpL x y))∧w=w':=by
 have hx:=x.ok
 have hy:=y.ok
 have ix:I64 x.val:=⟨by omega,by omega⟩
 have iy:I64 y.val:=⟨by omega,by omega⟩
 unfold cmpL
 by_cases a:x.val.natAbs=y.val.natAbs
 ·rw [if_neg (by simpa using a)]
  by_cases b:x.val<y.val
  ·rw [if_pos b];exact closure_lt _ _ (x.val.natAbs-1) (y.val.natAbs-1) w ix iy (by omega) (by omega) (by omega) b
  ·rw [if_neg b]
   by_cases c:y.val<x.val
   ·rw [if_pos c];exact closure_gt _ _ (x.val.natAbs-1) (y.val.natAbs-1) w ix iy (by omega) (by omega) (by omega) c
   ·rw [if_neg c];exact closure_eq _ _ (x.val.natAbs-1) (y.val.natAbs-1) w ix iy (by omega) (by omega) (by omega) (by omega)
 ·rw [if_pos (by simpa using a)]
  rw [show ((x.val.natAbs:Int)-(y.val.natAbs:Int))=((x.val.natAbs-1:Nat):Int)-((y.val.natAbs-1:Nat):Int) by omega]
  exact sU _ _ (x.val.natAbs-1) (y.val.natAbs-1) w ix iy (by omega) (by omega) (by omega) (by omega) (by omega)
theorem cmpLays (blk off size:Nat) (w:World):CmpLays1 Try.prog 78 #[] encL cmpL blk off size w:=by
 refine CmpReads.lays ?_
 intro m os dk _ x y
 refine (rM x y _).mono ?_
 rintro e w' ⟨rfl,rfl⟩
 exact ⟨rfl,0,rfl⟩
def NormRet (w:World) (xs:List Int) (e:Ending) (w':World):Prop :=
 ∃v,e = .returned (.tuple #[v, .bool (wJ xs).isSome])∧Own w' w.heap.size v ((wJ xs).getD [])∧Below w.heap.size w w'
theorem dC {w w':World} {xs:List Int} (h:wJ xs=none) (hb:Below w.heap.size w w'):NormRet w xs (.returned (.tuple #[.slice none 0 0, .bool false])) w':=by
 refine ⟨.slice none 0 0,by rw [h];rfl,?_,hb⟩
 rw [h]
 exact ⟨qE _ _ _ _,by simp⟩
theorem fW {xs:List Int} {k:Nat} {x:Int} (h:xs[k]? = some x) (hb:wS x=true):wJ xs=none :=
 dX (.inl ⟨x,List.mem_of_getElem? h,hb⟩)
set_option maxHeartbeats 1000000 in
theorem pE (v:Value) (xs:List Int) (w:World) (hv:Ints w v xs) (hlen:xs.length≤1000000) :
  Calls Try.prog 57 #[v] w (NormRet w xs):=by
 obtain ⟨A,c,rfl,hl,hm,hx,hr⟩:=hv
 obtain ⟨i0,hi,hz0,hz1,hz2⟩:=qD wV
 have HX:=Lib.hid hx
 have HR:=Lib.hid hr
 clear hx hr
 unfold maxLen at hm
 go_enter Try.func57,Try.ntmps57
 go_wp2_with (at_make;refine wpList_make_own _ rfl _ _ 33 rfl w.heap.size 3 i0 (.int .i64 0) 1 Try.underlying33 hi hz0 hz1 .i64 .i64 _ xs.length rfl rfl rfl (by rw [hz2];omega) (by unfold maxLen;omega) (Nat.le_refl _) ?_;intro w0 hown0 hg0)
 have hbw0:Below w.heap.size w w0:=(zR _ _).grown hg0 (Nat.le_refl _) (by simp)
 have HOWN0:=Lib.hid hown0
 have HBW0:=Lib.hid hbw0
 have HLEN:=Lib.hid hlen
 clear hown0 hg0 hbw0 hlen
 have hlenI:(xs.length:Int)≤1000000:=by have:=HLEN.out;omega
 go_loopw [4,13] (fun r i wr=>∃k:Nat,k≤xs.length∧i = .int .i64 k∧wr.ownsRow w.heap.size 3 1 r k ((xs.take k).map (Value.int .i64))∧Below w.heap.size w wr∧∀x∈xs.take k,wS x=false) (fun _ i _=>xs.length-(intOf i).toNat)
 case atStart=>exact ⟨0,by omega,rfl,by simpa using HOWN0.out,HBW0.out,by simp⟩
 case round =>
  obtain ⟨k,hk,rfl,hown,hbw,hgood⟩:=hrel
  have HOWN:=Lib.hid hown
  have HBW:=Lib.hid hbw
  have HG:=Lib.hid hgood
  clear hown hbw hgood
  obtain ⟨A1,cap1,rfl⟩:=bK HOWN.out
  by_cases hlt:k<xs.length
  ·obtain ⟨x,hxk⟩:∃x,xs[k]? = some x:=⟨_,List.getElem?_eq_getElem hlt⟩
   obtain ⟨b1,o1,rfl,hb1,hc1⟩:=(HR.out.keep HBW.out).int hxk
   have HXK:=Lib.hid hxk
   clear hxk
   by_cases hb0:wS x=true
   ·have HN:=Lib.hid (fW HXK.out hb0)
    have hor:x=0∨x = -9223372036854775808:=by simpa [wS] using hb0
    clear hb0
    rcases hor with rfl|rfl
    ·go_wp2_with fail
     go_ret2
     exact dC HN.out HBW.out
    ·go_wp2_with fail
     go_ret2
     exact dC HN.out HBW.out
   ·have hb1':wS x=false:=by simpa using hb0
    have hor:(x == 0)=false∧(x == -9223372036854775808)=false:=by simpa [wS] using hb1'
    obtain ⟨e1,e2⟩:=hor
    have HGX:=Lib.hid hb1'
    clear hb0 hb1'
    go_wp2_with (at_builtin;refine yZ _ rfl _ _ 33 rfl w.heap.size 3 i0 (.int .i64 0) 1 8 Try.underlying33 hi hz0 hz1 hz2 rfl (by decide) _ _ _ rfl (HOWN.out.alloc _) ⟨wr.heap.size,0,none⟩ 1 1 [.int .i64 x] rfl rfl ?c1 ?c2 ?c3 ?c4 ?c5 ?_)
    case c1 =>
     intro j u hj
     match j,hj with
     | 0,hj=>simp at hj;subst hj;simp [Addr.add]
    case c2=>intro u hu;simp at hu;subst hu;rfl
    case c3=>unfold maxLen;omega
    case c4=>omega
    case c5=>have:=HBW.out.size;simp;omega
    intro v' w2 hown' hgrow _
    have HO2:Hid (w2.ownsRow w.heap.size 3 1 v' (k+1) ((xs.take (k+1)).map (Value.int .i64))):=by
     rw [wL HXK.out,List.map_append,jM];exact hown'
    have HB2:Hid (Below w.heap.size w w2):=(HBW.out.alloc HBW.out.size _).grown hgrow (by have:=HBW.out.size;simp;omega) (fun g hg=>(HOWN.out.lt g hg).1)
    clear hown' hgrow
    go_wp2_with fail
    refine ⟨⟨k+1,by omega,by go_num,HO2.out,HB2.out,?_⟩,by simp [intOf];omega⟩
    rw [wL HXK.out]
    intro y hy
    rcases zK.1 hy with hy|hy
    ·exact HG.out y hy
    ·simp at hy;subst hy;exact HGX.out
  ·have HT:Hid (xs.take k=xs):=zU (by omega)
   have HGA:Hid (∀x∈xs,wS x=false):=by have h:=HG.out;rwa [HT.out] at h
   obtain rfl:k=xs.length:=by omega
   have HOWN1:Hid (wr.ownsRow w.heap.size 3 1 (.slice A1 xs.length cap1) xs.length (xs.map (Value.int .i64))):=by have h:=HOWN.out;rwa [HT.out] at h
   clear HOWN HG HOWN0 HBW0
   by_cases hnil:xs=[]
   ·subst hnil
    go_wp2_with fail
    refine (Try.slices_SortFunc_none (α:=Lit1) A1 cap1 _ _).mono ?_
    rintro e w2 ⟨rfl,rfl⟩
    go_wp2_with fail
    refine (Try.slices_Compact_int_empty A1 cap1 _).mono ?_
    rintro e w2 ⟨rfl,rfl⟩
    go_wp2_with fail
    go_rounds 1
    go_ret2
    refine ⟨_,rfl,?_,HBW.out⟩
    exact ⟨by simpa [wJ] using HOWN1.out,by simp [wJ]⟩
   ·have hpos:0<xs.length:=by
     rcases xs with _|⟨x,r⟩
     ·exact absurd rfl hnil
     ·simp
    obtain ⟨g,cap,hv,hbase,hg,hn1,hn2⟩:=lT HOWN1.out hpos
    injection hv with hv1 _ hv3
    subst hv1 hv3
    obtain ⟨ls,hls⟩:=lits_of xs fun x hx=>by
     have h1:=HX.out x hx
     have h2:=HGA.out x hx
     have h3:=dT h2
     have h4:x ≠ -9223372036854775808:=by intro h;subst h;simp [wS] at h2
     unfold I64 at h1
     omega
    have hll:ls.toArray.size=xs.length:=by rw [←hls];simp
    have eg:∀args w,(callFunc 78 args).run Try.prog w = .ok (.enter 78 args) w:=enters_of Try.func78 (by kernel_rfl) rfl
    have hcon:=Try.slices_SortFunc_total encL (fun _=>rfl) cmpL swoL 78 #[] g 0 cap1 ls.toArray wr eg (cmpLays _ _ _ _) (mY HOWN1.out ls (by rw [←hls];simp [encL,Function.comp_def])) hg (by rw [hll];have:=HLEN.out;omega) totL
    rw [hll] at hcon
    have HCON:=Lib.hid hcon
    have HLS:=Lib.hid hls
    clear hcon hls hll eg hnil
    go_wp2_with fail
    refine HCON.out.mono ?_
    rintro e w2 ⟨rfl,n2,os2,hw2⟩
    obtain ⟨zs,hzs⟩:∃zs,zs=(ls.mergeSort fun x y => !ltOf cmpL y x).map Lit1.val:=⟨_,rfl⟩
    have hzl:zs.length=xs.length:=by rw [hzs,←HLS.out];simp
    have hown2:w2.ownsRow w.heap.size 3 1 (.slice (some ⟨g,0,none⟩) xs.length cap1) xs.length (zs.map (Value.int .i64)):=by
     have h:=oY (enc:=encL) (m:=n2) (os:=os2) HOWN1.out (ls.mergeSort fun x y => !ltOf cmpL y x) (by rw [←HLS.out];simp)
     rw [hzs,vZ,hw2]
     exact h
    have hbw2:Below w.heap.size w w2:=by
     rw [hw2]
     refine HBW.out.grown (fQ (enc:=encL) (g:=g) _) HBW.out.size (fun k hk => ?_)
     injection hk with hk
     omega
    have hsort:=sortedL ls
    rw [HLS.out] at hsort
    have hs2:=hsort
    rw [←hzs] at hs2
    have HLAW:=Lib.hid (lK HGA.out hs2.2 hs2.1)
    have HMEM:=Lib.hid (eT zs hs2.1).1
    have HZM:=Lib.hid hs2.2
    have HZL:=Lib.hid hzl
    have HOWN2:=Lib.hid hown2
    have HBW2:=Lib.hid hbw2
    clear hw2 hzs hzl hown2 hbw2 hsort hs2 HCON
    have hcmp:=Try.slices_Compact_int g 0 cap1 zs w2 (mY HOWN2.out zs rfl) (by have:=HZL.out;omega) (by have:=HZL.out;omega)
    rw [HZL.out] at hcmp
    have HCMP:=Lib.hid hcmp
    clear hcmp
    go_wp2_with fail
    refine HCMP.out.mono ?_
    rintro e w3 ⟨rfl,q3,hw3⟩
    have hcl:(Lib.compact zs).length≤xs.length:=by
     rw [←HZL.out]
     have h:=xD (Lib.keeps zs.toArray) (List.range zs.length)
     simpa [Lib.compact,Lib.compactUpTo] using h
    have hown3:w3.ownsRow w.heap.size 3 1 (.slice (some ⟨g,0,none⟩) (Lib.compact zs).length cap1) (Lib.compact zs).length ((Lib.compact zs).map (Value.int .i64)):=by
     have h:=oY (enc:=Value.int .i64) (m:=q3) (os := #[]) HOWN2.out (Lib.compact zs++List.replicate (xs.length-(Lib.compact zs).length) 0) (by simp;omega)
     rw [Sort.grow_empty] at h
     have h2:=owns_cut h hcl
     rw [List.map_append,zY (by simp),zU (by simp)] at h2
     rw [hw3]
     exact h2
    have hbw3:Below w.heap.size w w3:=by
     rw [hw3]
     have h:=fQ (w:=w2) (enc:=Value.int .i64) (g:=g) (m:=q3) (os := #[]) (Lib.compact zs++List.replicate (xs.length-(Lib.compact zs).length) 0).toArray
     rw [Sort.grow_empty] at h
     refine HBW2.out.grown h HBW2.out.size (fun k hk => ?_)
     injection hk with hk
     omega
    generalize hT2:Lib.compact zs=t at *
    have HOWN3:=Lib.hid hown3
    have HBW3:=Lib.hid hbw3
    have hti:∀x∈t, -9223372036854775807≤x∧x≤9223372036854775807:=by
     intro x hx
     have h1:=(HZM.out x).1 ((HMEM.out x).1 hx)
     have h2:=HX.out x h1
     have h3:=HGA.out x h1
     have h4:x ≠ -9223372036854775808:=by intro h;subst h;simp [wS] at h3
     unfold I64 at h2
     omega
    have HTI:=Lib.hid hti
    clear hw3 hown3 hbw3 hT2 hti HCMP HOWN2 HBW2 HZL HZM HMEM HOWN1
    have htl:(t.length:Int)≤1000000:=by omega
    have HR3:=Lib.hid (Own.ints (base:=w.heap.size) ⟨HOWN3.out,fun x hx=>⟨by have:=(HTI.out x hx).1;omega,(HTI.out x hx).2⟩⟩:Ints w3 (.slice (some ⟨g,0,none⟩) t.length cap1) t)
    go_wp2_with fail
    go_loopw [7] (fun i wr=>∃k m:Nat,1≤k∧(k≤t.length∨k=1)∧i = .int .i64 k∧wr=w3.drewN m∧∀(j:Nat) (a b:Int),0<j→j<k→t[j-1]? = some a→t[j]? = some b→a ≠ -b) (fun i _=>t.length-(intOf i).toNat)
    case atStart=>exact ⟨1,0,by omega, .inr rfl,rfl,rfl,fun j a b h1 h2=>by omega⟩
    case round =>
     obtain ⟨k,m,hk1,hk2,rfl,rfl,hno⟩:=hrel
     have HNO:=Lib.hid hno
     clear hno
     by_cases hlt2:k<t.length
     ·obtain ⟨a,ha⟩:∃x,t[k-1]? = some x:=⟨_,List.getElem?_eq_getElem (by omega)⟩
      obtain ⟨b,hb⟩:∃x,t[k]? = some x:=⟨_,List.getElem?_eq_getElem hlt2⟩
      obtain ⟨A3,c3,hv3,_,_,_,hr3⟩:=HR3.out
      injection hv3 with hv4 _ hv5
      subst hv4 hv5
      obtain ⟨b1,o1,hA1,hb1,hc1⟩:=hr3.int ha
      obtain ⟨b2,o2,hA2,hb2,hc2⟩:=hr3.int hb
      injection hA1 with hA1
      injection hA2 with hA2
      injection hA1 with q1 q2
      injection hA2 with q3 q4
      subst q1 q2 q3 q4
      have hbb:=HTI.out b (List.mem_of_getElem? hb)
      have HA:=Lib.hid ha
      have HB:=Lib.hid hb
      clear ha hb hr3 hb2
      simp only [qZ] at hc1 hc2
      by_cases hab:a = -b
      ·have HN:=Lib.hid (HLAW.out.1 ⟨k,a,b,by omega,HA.out,HB.out,hab⟩)
       have hbe:(a == -b)=true:=by simp [hab]
       clear hab
       go_wp2_with fail
       have y1:IntKind.i64.wrap ((k:Int)-1)=(k:Int)-1:=qN _ (by omega)
       have y2:0≤(k:Int)-1:=by omega
       have y3:(1:Int)≤(k:Int):=by omega
       have y4:((k:Int)-1).toNat=k-1:=by omega
       have y5:(k:Int)-1<(t.length:Int):=by omega
       have y6:IntKind.i64.wrap (-b) = -b:=qN _ (by omega)
       go_quiet (fail)
       clear y1 y2 y3 y4 y5 y6
       go_wp2_with fail
       go_ret2
       exact dC HN.out ⟨HBW3.out.os,HBW3.out.tape,HBW3.out.output,HBW3.out.size,HBW3.out.block⟩
      ·have hbe:(a == -b)=false:=by simp [hab]
       have HAB:=Lib.hid hab
       clear hab
       go_wp2_with fail
       have y1:IntKind.i64.wrap ((k:Int)-1)=(k:Int)-1:=qN _ (by omega)
       have y2:0≤(k:Int)-1:=by omega
       have y3:(1:Int)≤(k:Int):=by omega
       have y4:((k:Int)-1).toNat=k-1:=by omega
       have y5:(k:Int)-1<(t.length:Int):=by omega
       have y6:IntKind.i64.wrap (-b) = -b:=qN _ (by omega)
       go_quiet (fail)
       clear y1 y2 y3 y4 y5 y6
       go_wp2_with fail
       refine ⟨⟨k+1,_,by omega, .inl (by omega),by go_num,rfl,?_⟩,by simp [intOf];omega⟩
       intro j x y h1 h2 h3 h4
       by_cases e:j=k
       ·subst e
        rw [HA.out] at h3
        rw [HB.out] at h4
        injection h3 with h3
        injection h4 with h4
        subst h3 h4
        exact HAB.out
       ·exact HNO.out j x y h1 (by omega) h3 h4
     ·have HN:Hid (wJ xs=some t):=by
       refine HLAW.out.2 ?_
       rintro ⟨i,a,b,h0,h1,h2,h3⟩
       have hi:i<t.length:=(zG.1 h2).1
       exact HNO.out i a b h0 (by omega) h1 h2 h3
      go_wp2_with fail
      go_ret2
      refine ⟨_,by rw [HN.out];rfl,?_,⟨HBW3.out.os,HBW3.out.tape,HBW3.out.output,HBW3.out.size,HBW3.out.block⟩⟩
      rw [HN.out]
      exact ⟨HOWN3.out,fun x hx=>⟨by have:=(HTI.out x hx).1;omega,(HTI.out x hx).2⟩⟩
end Go.Proofs.Yticieifacalocaa
