/- LawSRi Open OpenP -/
import Derived.Test.YticieifacalocaaTSG51
import Derived.ProofKit
import Derived.OpenShut
import Derived.Deep.Slices
import Derived.Deep.Fields
import Derived.Lib.SmallJoins
import Derived.SizedLaws
import Derived.WideKeyArgs
import Derived.Laws.IdiomArrays
namespace Go.Proofs.Yticieifacalocaa
open Go.RowKit
set_option maxRecDepth 100000 in
set_option maxHeartbeats 8000000 in
theorem lawSRi (n q:Int) (w:World) (hn0:0≤n) (hn1:n≤255) (hq0:0≤q) (hq1:q≤255) :
  Calls Try.prog 7 #[.int .u8 n, .int .u8 q] w fun e w'=>e = .returned (.bool true)∧Below w.heap.size w w':=by
 obtain ⟨iS,hiS,hzS0,hzS1,hzS2⟩:=qC bZ
 obtain ⟨iD,hiD,hzD0,hzD1,hzD2⟩:=qC aU
 obtain ⟨r,hr⟩:∃r:Nat,n.tmod 10=(r:Int):=⟨(n.tmod 10).toNat,by have:=uT 10 hn0;omega⟩
 have hr9:r<10:=by have:=vZ n (b:=10) (by omega);omega
 obtain ⟨k,hk⟩:∃k:Nat,k=2+r:=⟨_,rfl⟩
 have hk2:2≤k:=by omega
 have hk11:k≤11:=by omega
 have hkr:(2:Int)+(r:Int)=(k:Int):=by omega
 obtain ⟨m,hm⟩:∃m:Nat,q.tmod (k:Int)=(m:Int):=⟨(q.tmod (k:Int)).toNat,by have:=uT (k:Int) hq0;omega⟩
 have hmk:m<k:=by have:=vZ q (b:=(k:Int)) (by omega);omega
 have HQ:=Lib.hid (And.intro hq0 hq1)
 have HM:=Lib.hid hm
 have HKI:Hid (I64 (k:Int)):=Lib.hid (by constructor<;>omega)
 clear hk hm
 go_enter Try.func7,Try.ntmps7
 go_upto_region 3 with fail
 have HF0:=Lib.hid (FB.start w (k:Int) (k:Int))
 generalize w.alloc (.cells #[.int .i64 (k:Int), .int .i64 (k:Int), .slice none 0 0, .slice none 0 0] 29)=W at *
 clear hr hr9 hkr hn0 hn1
 go_wp2_with fail
 go_loopw [7] (fun iv wr=>∃(i:Nat) (A A':Option Addr) (c c':Nat) (us:List Value),i≤k∧iv = .int .i64 (i:Int)∧Hid (us.length=i∧FB w wr w.heap.size w.heap.size (k:Int) (k:Int) (bP k i) (.slice A i c) (.slice A' i c') us (aJ i))) (fun iv _=>k-(intOf iv).toNat)
 case atStart=>exact ⟨0,none,none,0,0,[],zP _,rfl,Lib.hid ⟨rfl,HF0.out⟩⟩
 case round =>
  obtain ⟨i,A,A',c,c',us,hik,rfl,HR⟩:=hrel
  by_cases hlt:i<k
  ·have HKL:=Lib.hid (And.intro hik hlt)
   have hgl:w.heap.size<wr.heap.size:=HR.out.2.b.lt
   have HGL:=Lib.hid hgl
   obtain ⟨y,hy⟩:∃y:Nat,y=(i+1) % k:=⟨_,rfl⟩
   have hyk:y<k:=by rw [hy];exact Nat.mod_lt _ (by omega)
   have HDO:Hid (∀d∈[(⟨(i:Int),(y:Int), -1⟩:Diff)],d.ok):=Lib.hid (by intro d hd;rw [zI.1 hd];refine ⟨⟨?_,?_⟩,⟨?_,?_⟩,⟨?_,?_⟩⟩<;>simp only<;>omega)
   have HYM:Hid (bP k i++[(⟨(i:Int),(y:Int), -1⟩:Diff)]=bP k (i+1)):=Lib.hid (by rw [sS,hy])
   have HN:Hid (∀j u,([.int .i64 (i:Int), .int .i64 (y:Int), .int .i64 (-1)]:List Value)[j]? = some u→(wr.alloc (.cells #[.int .i64 (i:Int), .int .i64 (y:Int), .int .i64 (-1)] 50)).cell? ((⟨wr.heap.size,0,none⟩:Addr).add j)=some u):=Lib.hid (wR wr _ [.int .i64 (i:Int), .int .i64 (y:Int), .int .i64 (-1)] rfl)
   have HO1:Hid (∀u∈([.int .i64 (i:Int), .int .i64 (y:Int), .int .i64 (-1)]:List Value),u.oneCell'=true):=Lib.hid (by intro u hu;simp at hu;rcases hu with rfl|rfl|rfl<;>rfl)
   have HM1:Hid (i+1≤maxLen):=by refine Lib.hid ?_;unfold maxLen;omega
   have HM2:Hid ((i+1) * 24≤140737488355328):=by refine Lib.hid ?_;omega
   have HM3:Hid (w.heap.size+1≤(wr.alloc (.cells #[.int .i64 (i:Int), .int .i64 (y:Int), .int .i64 (-1)] 50)).heap.size):=Lib.hid (by simp;omega)
   have HOW:Hid ((wr.alloc (.cells #[.int .i64 (i:Int), .int .i64 (y:Int), .int .i64 (-1)] 50)).ownsRow (w.heap.size+1) 50 3 (.slice A i c) i ((bP k i).flatMap Diff.cells)):=Lib.hid (by have h:=HR.out.2.a.alloc (.cells #[.int .i64 (i:Int), .int .i64 (y:Int), .int .i64 (-1)] 50);rw [fI] at h;exact h)
   have s2:=HR.out.2.b.cell 2
   have s2a:=(HR.out.2.b.alloc (.cells #[.int .i64 (i:Int), .int .i64 (y:Int), .int .i64 (-1)] 50)).cell 2
   simp only [zA,zB,zC] at s2 s2a
   have yt:((i:Int)+1).tmod (k:Int)=(y:Int):=by rw [yZ (by omega),hy];norm_cast
   have yk:¬((k:Int)=0):=by omega
   have yk2:¬(k=0):=by omega
   clear hy hgl
   have z1:IntKind.i64.wrap ((i:Int)+1)=(i:Int)+1:=yG _ (by omega)
   have z2:IntKind.i64.wrap (y:Int)=(y:Int):=yG _ (by omega)
   go_upto_region 6 with fail
   go_region_law (refine wB rfl (.tmp 24) (.tmp 31) 26 rfl (w.heap.size+1) 50 iD (.agg #[.int .i64 0, .int .i64 0, .int .i64 0]) 3 24 Try.underlying26 hiD hzD0 hzD1 hzD2 rfl (by decide) (.slice A i c) i ((bP k i).flatMap Diff.cells) (by simp [Act.eval]) HOW.out.drew ⟨wr.heap.size,0,none⟩ 1 1 [.int .i64 (i:Int), .int .i64 (y:Int), .int .i64 (-1)] (by simp [Act.eval]) rfl HN.out HO1.out HM1.out HM2.out HM3.out ?_;intro v9 w9 hown hg hat;obtain ⟨A9,c9,hv9,hb9,hfb9⟩:=HR.out.2.pushA (n:=1) (news:=[⟨(i:Int),(y:Int), -1⟩]) HDO.out (by rw [fI];exact hown) rfl (show (wr.alloc _).grownBy w9 _ from ⟨hg.os,hg.tape,hg.output,hg.size,hg.block⟩) hat;rw [fI] at hv9;subst hv9;have HFB9:=Lib.hid hfb9;have s9:=hb9.cell 2;have f9:=hb9.frozen 2;simp only [zA,zB,zC] at s9;clear hfb9 hb9 hown hg hat)
   all_goals
    rw [HYM.out] at HFB9
    have HUS:=Lib.hid HR.out.1
    clear s2 s2a s9 f9 yt z1 z2 HR HN HOW HO1 HM3 HYM HDO
    generalize w9.setCell ⟨w.heap.size,2,none⟩ (.slice A9 (i+1) c9)=wa at *
    have HGA:=Lib.hid HFB9.out.b.lt
    have hus:=HUS.out
    have HRI:Hid (∀(j:Nat) (u:Value) (xs:List Int),([.slice (some ⟨wa.heap.size,0,none⟩) 1 1]:List Value)[j]? = some u→[[(i:Int)+1]][j]? = some xs→IntsO ((wa.alloc (.cells #[.int .i64 ((i:Int)+1)] 3)).alloc (.cells #[.slice (some ⟨wa.heap.size,0,none⟩) 1 1] 33)) (fun b=>wa.heap.size≤b) u xs):=Lib.hid (by
     intro j u xs hu hx
     obtain rfl:j=0:=by cases j with|zero=>rfl|succ j=>simp at hu
     simp at hu hx
     subst hu hx
     exact (bW wa [(i:Int)+1] (fun x hx=>by rw [zI.1 hx];constructor<;>omega) (by simp [maxLen])).keep ((zN _ _).alloc (Nat.le_refl _) _))
    have HN:Hid (∀j u,([.slice (some ⟨wa.heap.size,0,none⟩) 1 1]:List Value)[j]? = some u→((wa.alloc (.cells #[.int .i64 ((i:Int)+1)] 3)).alloc (.cells #[.slice (some ⟨wa.heap.size,0,none⟩) 1 1] 33)).cell? ((⟨wa.heap.size+1,0,none⟩:Addr).add j)=some u):=Lib.hid (wR (wa.alloc (.cells #[.int .i64 ((i:Int)+1)] 3)) _ [.slice (some ⟨wa.heap.size,0,none⟩) 1 1] (by simp))
    have HO1:Hid (∀u∈([.slice (some ⟨wa.heap.size,0,none⟩) 1 1]:List Value),u.oneCell'=true):=Lib.hid (by intro u hu;rw [zI.1 hu];rfl)
    have HM3:Hid (w.heap.size+1≤((wa.alloc (.cells #[.int .i64 ((i:Int)+1)] 3)).alloc (.cells #[.slice (some ⟨wa.heap.size,0,none⟩) 1 1] 33)).heap.size):=Lib.hid (by have:=HGA.out;simp;omega)
    have HOW:Hid (((wa.alloc (.cells #[.int .i64 ((i:Int)+1)] 3)).alloc (.cells #[.slice (some ⟨wa.heap.size,0,none⟩) 1 1] 33)).ownsRow (w.heap.size+1) 33 1 (.slice A' i c') i us):=Lib.hid (by have h:=(HFB9.out.m.1.alloc (.cells #[.int .i64 ((i:Int)+1)] 3)).alloc (.cells #[.slice (some ⟨wa.heap.size,0,none⟩) 1 1] 33);rw [HUS.out] at h;exact h)
    have s3:=HFB9.out.b.cell 3
    simp only [zA,zB,zC] at s3
    clear hus
    go_upto_region 7 with fail
    go_wp2_with (at_builtin;refine zW _ rfl _ _ 27 rfl (w.heap.size+1) 33 iS (.slice none 0 0) 1 24 Try.underlying27 hiS hzS0 hzS1 hzS2 rfl (by decide) _ _ _ rfl HOW.out ⟨wa.heap.size+1,0,none⟩ 1 1 [.slice (some ⟨wa.heap.size,0,none⟩) 1 1] rfl rfl HN.out HO1.out HM1.out HM2.out HM3.out ?_)
    intro v8 w8 hown hg _ hat
    obtain ⟨A8,c8,hv8,hb8,hfb8⟩:=HFB9.out.pushC (n:=1) (nus:=[.slice (some ⟨wa.heap.size,0,none⟩) 1 1]) (nxss:=[[(i:Int)+1]]) (((zN _ _).alloc (Nat.le_refl _) _).alloc (by simp) _) rfl HRI.out (by rw [HUS.out];exact hown) rfl hg (by simpa using hat)
    rw [HUS.out] at hv8
    subst hv8
    rw [←ringC_succ] at hfb8
    have HFB8:=Lib.hid hfb8
    have s8:=hb8.cell 3
    have f8:=hb8.frozen 3
    simp only [zA,zB,zC] at s8
    clear hfb8 hb8 hown hg hat s3 HN HO1 HM3 HOW HRI HFB9
    go_wp2_with fail
    have hlt:=HKL.out.2
    go_roundw
    case rel=>exact ⟨i+1,A9,A8,c9,c8,_,by omega,by go_num,Lib.hid ⟨by rw [zH,HUS.out];rfl,HFB8.out⟩⟩
    case measure=>simp [intOf];omega
  ·obtain rfl:i=k:=by omega
   have yi:¬(i<i):=by omega
   have HB1:=Lib.hid HR.out.2.bl
   have HFF:Hid (IsForm wr (.agg #[.int .i64 (i:Int), .int .i64 (i:Int), .slice A i c, .slice A' i c']) (nX i)):=Lib.hid (HR.out.2.form HKI.out HKI.out)
   obtain ⟨o, -,hc⟩:=bT (bI hk2 hk11) (B:=i) rfl (by omega) nP wr _ HFF.out
   have HC:=Lib.hid hc
   clear hc
   have q0:=HR.out.2.b.cell 0
   have q1:=HR.out.2.b.cell 1
   have q2:=HR.out.2.b.cell 2
   have q3:=HR.out.2.b.cell 3
   simp only [zA,zB,zC] at q0 q1 q2 q3
   go_wp2_with fail
   refine HC.out.mono ?_
   rintro e w4 ⟨m0,m1,lv,rfl,hv4,hb4⟩
   have HEO:=Lib.hid (ring_ref hk2 hk11 hv4)
   obtain ⟨Am,nm,cm,Ax,nx,cx,rfl,rfl⟩:=hv4.shape
   have hb5:Below w4.heap.size w4 (w4.alloc (.cells #[.slice Am nm cm, .slice Ax nx cx] 35)):=(zN _ _).alloc (Nat.le_refl _) _
   have HMK:=Lib.hid (Blk.new w4 35 #[.slice Am nm cm, .slice Ax nx cx])
   have HV5:=Lib.hid (hv4.keep hb5)
   have hb45:=hb4.trans (hb5.mono hb4.size)
   have HFB5:=Lib.hid ((HR.out.2.keep hb4).box (.cells #[.slice Am nm cm, .slice Ax nx cx] 35))
   have HFF5:=Lib.hid (HFF.out.keep hb45)
   have HLT5:Hid (wr.heap.size≤w4.heap.size):=Lib.hid hb4.size
   have HUS:=Lib.hid HR.out.1
   have HG1:Hid (∀g,(Value.slice A' i c').ownBlock=some g→g<w4.heap.size):=Lib.hid (fun g e=>zX (HR.out.2.m.1.lt g e).2 hb4.size)
   have he:=HEO.out
   rw [he]
   clear hv4 hb4 hb5 hb45 HC HR HFF q0 q1 q2 q3 he
   go_upto_region 9 with fail
   generalize w4.alloc (.cells #[.slice Am nm cm, .slice Ax nx cx] 35)=w5 at *
   generalize w4.heap.size=mk at *
   have q0:=HFB5.out.b.cell 0
   have q1:=HFB5.out.b.cell 1
   have q2:=HFB5.out.b.cell 2
   have q3:=HFB5.out.b.cell 3
   have p0:=HMK.out.cell 0
   have p1:=HMK.out.cell 1
   simp only [zA,zB,zC] at q0 q1 q2 q3 p0 p1
   have HRT:Hid (Calls Try.prog 18 #[.agg #[.int .i64 (i:Int), .int .i64 (i:Int), .slice A i c, .slice A' i c'], .agg #[.slice Am nm cm, .slice Ax nx cx],lv, .bool false] w5 fun e w'=>e = .returned (.bool true)∧Below w5.heap.size w5 w'):=Lib.hid (by have h:=aT HFF5.out (bI hk2 hk11) HV5.out;rw [HEO.out] at h;exact h)
   go_wp2_with fail
   refine HRT.out.mono ?_
   rintro e w6 ⟨rfl,hb6⟩
   have HFB6:=Lib.hid (HFB5.out.keep hb6)
   have HMK6:=Lib.hid (HMK.out.keep hb6)
   clear hb6 q0 q1 q2 q3 p0 p1 HFB5 HMK HFF5 HV5 HRT HEO HB1
   obtain ⟨g,hg0⟩:∃g,(.slice A' i c':Value) = .slice (some ⟨g,0,none⟩) i c':=by
    rcases bN HFB6.out.m.1 with ⟨-,h, -⟩|⟨g,cap,h⟩
    ·have:=HUS.out;omega
    ·injection h with h1 h2 h3;exact ⟨g,by rw [h1]⟩
   injection hg0 with hg1
   subst hg1
   have hgm:g<mk:=HG1.out g rfl
   have q3:=HFB6.out.b.cell 3
   simp only [zA,zB,zC] at q3
   obtain ⟨u0,hu0⟩:∃u0,us[m]? = some u0:=⟨_,List.getElem?_eq_getElem (by have:=HUS.out;omega)⟩
   have HOM:Hid (w6.ownsRow (w.heap.size+1) 33 1 (.slice (some ⟨g,0,none⟩) i c') i us):=Lib.hid (by have h:=HFB6.out.m.1;rw [HUS.out] at h;exact h)
   have qm:=(HOM.out.cellAt m (by omega)).trans hu0
   have fm:=HOM.out.frozenAt m
   have hgk:w.heap.size<g:=(HFB6.out.m.1.lt g rfl).1
   have hgw:g<w6.heap.size:=(HFB6.out.m.1.lt g rfl).2
   have HFB7:Hid (FB w ((w6.alloc (.cells #[.int .i64 (-((m:Int)+1))] 3)).setCell ⟨g,m,none⟩ (.slice (some ⟨w6.heap.size,0,none⟩) 1 1)) w.heap.size mk (i:Int) (i:Int) (bP i i) (.slice A i c) (.slice (some ⟨g,0,none⟩) i c') (us.set m (.slice (some ⟨w6.heap.size,0,none⟩) 1 1)) ((aJ i).set m [-((m:Int)+1)])):=Lib.hid (by
    have h0:=HFB6.out
    rw [←HUS.out] at h0
    have h:=FB.setC (j:=m) (xs:=[-((m:Int)+1)]) h0 ((zN _ _).alloc (Nat.le_refl _) _) (bW w6 [-((m:Int)+1)] (fun x hx=>by rw [zI.1 hx];constructor<;>omega) (by simp [maxLen]))
    rw [HUS.out] at h
    exact h)
   have HMK7:=Lib.hid ((HMK6.out.alloc (.cells #[.int .i64 (-((m:Int)+1))] 3)).grown (jZ _ g m (.slice (some ⟨w6.heap.size,0,none⟩) 1 1)) (fun e=>by injection e;omega))
   have qma:(w6.alloc (.cells #[.int .i64 (-((m:Int)+1))] 3)).cell? ⟨g,m,none⟩=some u0:=((zN w6.heap.size w6).alloc (Nat.le_refl _) _).cell (p:=⟨g,m,none⟩) hgw |>.trans qm
   have fma:(w6.alloc (.cells #[.int .i64 (-((m:Int)+1))] 3)).frozen? ⟨g,m,none⟩=false:=(dC HOM.out ((zN w6.heap.size w6).alloc (Nat.le_refl _) (.cells #[.int .i64 (-((m:Int)+1))] 3))).frozenAt m
   have q3a:=(HFB6.out.b.alloc (.cells #[.int .i64 (-((m:Int)+1))] 3)).cell 3
   have q3b:=HFB7.out.b.cell 3
   simp only [zA,zB,zC] at q3a q3b
   rw [World.setCell_alloc_past _ _ _ _ hgw] at HFB7 HMK7 q3b
   have hm:=HM.out
   have yk:¬((i:Int)=0):=by omega
   have yk2:¬(i=0):=by omega
   have ym:(m:Int)<(i:Int):=by omega
   have ym2:m<i:=by omega
   have hq:=HQ.out
   have hqa:=hq.1
   have hqb:=hq.2
   clear hq
   have z0:IntKind.i64.wrap q=q:=yG _ (by omega)
   have z1:IntKind.i64.wrap ((m:Int)+1)=(m:Int)+1:=yG _ (by omega)
   have z2:IntKind.i64.wrap (m:Int)=(m:Int):=yG _ (by omega)
   have z3:IntKind.i64.wrap (-((m:Int)+1)) = -((m:Int)+1):=yG _ (by omega)
   clear hu0
   go_upto_region 11 with fail
   go_region_held3 (fun w'=>w'.cell? ⟨w.heap.size,3,none⟩=some (.slice (some ⟨g,0,none⟩) i c')) (first|exact q3|exact q3a|exact q3b) (fail)
   all_goals
    clear q3 q3a q3b qm qma fm fma z0 z1 z2 z3 hm hqa hqb HFB6 HMK6 HOM
    have HFB7:=Lib.hid HFB7.out.drew
    have HMK7:=Lib.hid HMK7.out.drew
    generalize ((w6.setCell ⟨g,m,none⟩ (.slice (some ⟨w6.heap.size,0,none⟩) 1 1)).alloc (.cells #[.int .i64 (-((m:Int)+1))] 3)).drew=w7 at *
    have HFF7:Hid (IsForm w7 (.agg #[.int .i64 (i:Int), .int .i64 (i:Int), .slice A i c, .slice (some ⟨g,0,none⟩) i c']) (eA i m)):=Lib.hid (HFB7.out.form HKI.out HKI.out)
    obtain ⟨o2,hg2,hc2⟩:=bT (iH hk2 hk11 hmk) (B:=i) rfl (by omega) ringG_lens w7 _ HFF7.out
    have HC2:=Lib.hid hc2
    have HEO2:=Lib.hid (ringG_mod hk2 hk11 hmk hg2)
    clear hc2 hg2
    have q0:=HFB7.out.b.cell 0
    have q1:=HFB7.out.b.cell 1
    have q2:=HFB7.out.b.cell 2
    have q3:=HFB7.out.b.cell 3
    simp only [zA,zB,zC] at q0 q1 q2 q3
    go_wp2_with fail
    refine HC2.out.mono ?_
    rintro e w8 ⟨n0,n1,lv2,rfl,hv8,hb8⟩
    obtain ⟨An,nn,cn,Ay,ny,cy,rfl,rfl⟩:=hv8.shape
    have HMK8:=Lib.hid (HMK7.out.keep hb8)
    have HMK9:Hid (Blk ((w8.setCell ⟨mk,0,none⟩ (.slice An nn cn)).setCell ⟨mk,1,none⟩ (.slice Ay ny cy)) mk 35 #[.slice An nn cn, .slice Ay ny cy]):=Lib.hid ((HMK8.out.set_ 0 (.slice An nn cn)).set_ 1 (.slice Ay ny cy))
    have hmw:mk<w7.heap.size:=HMK7.out.lt
    have hwm:w.heap.size<mk:=by omega
    have hb9:Below mk w8 ((w8.setCell ⟨mk,0,none⟩ (.slice An nn cn)).setCell ⟨mk,1,none⟩ (.slice Ay ny cy)):=((zN mk w8).setCell (p:=⟨mk,0,none⟩) (Nat.le_refl _) _).setCell (p:=⟨mk,1,none⟩) (Nat.le_refl _) _
    have HB8:=Lib.hid hb8
    have HV8:=Lib.hid hv8
    have e0:=HEO2.out
    rw [e0]
    have z0:=HMK8.out.frozen 0
    have z1:=HMK8.out.frozen 1
    have z2:=HMK8.out.cell 0
    have z3:=HMK8.out.cell 1
    simp only [zA,zB,zC] at z2 z3
    clear hv8 hb8 q0 q1 q2 q3 HC2 e0
    have HFB9:=Lib.hid (((HFB7.out.keep HB8.out).setX hwm 0 (.slice An nn cn)).setX hwm 1 (.slice Ay ny cy))
    have HFF9:=Lib.hid (HFB9.out.form HKI.out HKI.out)
    have HV9:Hid (SlvVal ((w8.setCell ⟨mk,0,none⟩ (.slice An nn cn)).setCell ⟨mk,1,none⟩ (.slice Ay ny cy)) (eA i m) o2 (.slice An nn cn) (.slice Ay ny cy) lv2)  := Lib.hid (HV8.out.aside HEO2.out HMK8.out (dF (jZ _ _ _ _) (jZ _ _ _ _)))
    go_upto_region 13 with fail
    generalize (w8.setCell ⟨mk,0,none⟩ (.slice An nn cn)).setCell ⟨mk,1,none⟩ (.slice Ay ny cy)=w9 at *
    have q0:=HFB9.out.b.cell 0
    have q1:=HFB9.out.b.cell 1
    have q2:=HFB9.out.b.cell 2
    have q3:=HFB9.out.b.cell 3
    have p0:=HMK9.out.cell 0
    have p1:=HMK9.out.cell 1
    simp only [zA,zB,zC] at q0 q1 q2 q3 p0 p1
    have HRT:Hid (Calls Try.prog 18 #[.agg #[.int .i64 (i:Int), .int .i64 (i:Int), .slice A i c, .slice (some ⟨g,0,none⟩) i c'], .agg #[.slice An nn cn, .slice Ay ny cy],lv2, .bool true] w9 fun e w'=>e = .returned (.bool true)∧Below w9.heap.size w9 w'):=Lib.hid (by have h:=aT HFF9.out (iH hk2 hk11 hmk) HV9.out;rw [HEO2.out] at h;exact h)
    have HB9:=Lib.hid HFB9.out.bl
    go_wp2_with fail
    refine HRT.out.mono ?_
    rintro e w10 ⟨rfl,hb10⟩
    have HB10:=Lib.hid (HB9.out.trans (hb10.mono (xG HFB9.out.b.lt)))
    clear hb10 q0 q1 q2 q3 p0 p1 HRT
    go_wp2_with fail
    refine (awake34 _).mono ?_
    rintro e w13 ⟨rfl,hb13⟩
    have HB13:=Lib.hid (HB10.out.trans (hb13.mono HB10.out.size))
    clear hb13
    go_wp2_with fail
    go_ret
    exact ⟨rfl,HB13.out⟩
open Go.ChangeShapes Go.WideShapes Go.ChangeAt Go.RowKit Go.Deep Go.Joins
section
variable {H:Type} {enc:TypeId × Value→H} {P:Program} {w:World}
theorem mT {ts:List TypeId} {vs:List Value} {ds:List (DataW H)} {ps:List MemPlace} (hl:laidOutB P=true) (hr:∀t∈ts,P.readableRec t=true∧t<P.types.size) {W W':World} {sp:Nat→Bool}
  (h:DataW.TrodAll enc P W 0 (fun _=>true) true ts vs ds ps) (hsame:∀p∈ps,W.sameAt W' p) (hs:∀p∈ps,sp p.block=true):DataW.TrodAll enc P W' 0 sp true ts vs ds ps:=by
 induction ts generalizing vs ds ps with
 | nil=>cases vs<;>cases ds<;>simp_all [DataW.TrodAll]
 | cons t ts ih =>
  obtain ⟨v,vs',d,ds',p,q,rfl,rfl,rfl,h1,h2⟩:=trodAll_cons h
  obtain ⟨r1,r2⟩:=hr t (by simp)
  exact ⟨p,q,WideElems.Trod_stays hl r1 r2 h1 (fun x hx=>hsame x (by simp [hx])) (fun x hx=>hs x (by simp [hx])),ih (fun t ht=>hr t (by simp [ht])) h2 (fun x hx=>hsame x (by simp [hx])) (fun x hx=>hs x (by simp [hx])),rfl⟩
theorem rM {f:Func} {s:ChangeSpec} {W W':World} {args:Array Value} {ds gs:List (DataW H)} {before:List MemPlace} {tb:TypeId} (hW:DataW.Whole enc P f.params.toList s.vars false W args.toList ds gs before)
  (hvars:s.vars=[]) (hres:f.resultTypes = #[tb]) (htb:P.underlying tb=some .bool) (hfn:s.fn H ds={ results:=[.lit (.bool true)],args:=ds })
  (hl:laidOutB P=true) (hr:∀t∈f.params.toList,P.readableRec t=true∧t<P.types.size) (hb:Below W.heap.size W W') :
  s.post enc P f false true false false W args (.bool true) W':=by
 have hlt:∀p∈before,p.block<W.heap.size:=fun p hp=>hW.lt p hp
 have hW':=hW
 obtain ⟨p,q,hA,hV,rfl,hz,hn⟩:=hW
 rw [hvars] at hV
 obtain ⟨rfl,rfl⟩:=trodVars_none hV
 simp only [yS] at *
 have hres1:∀(b:Nat) (sp:Nat→Bool) (hd:Bool),DataW.TrodAll enc P W' b sp hd f.resultTypes.toList ((Value.bool true).resultList f.resultTypes.size) (s.fn H (ds++[])).results []:=by
  intro b sp hd
  rw [yS,hfn,hres]
  exact trodAll_cons_mk (shut_bool htb _) trodAll_mk0
 have hargs:∀sp:Nat→Bool,(∀x∈p,sp x.block=true)→DataW.TrodAll enc P W' 0 sp true f.params.toList args.toList (s.fn H (ds++[])).args p:=by
  intro sp hsp
  rw [yS,hfn]
  exact mT hl hr hA (fun x hx=>hb.same (hlt x hx)) hsp
 have hvs:∀sp:Nat→Bool,DataW.TrodVars enc P W' sp s.vars (s.fn H (ds++[])).vars []:=by
  intro sp
  rw [yS,hfn,hvars]
  rfl
 refine ⟨ds,[],p,[],p,[],hW',hres1 _ _ _,hargs _ (fun x hx=>by simpa using hlt x hx),hvs _,World.keptBut_mono (fun x hx=>⟨hx,?_⟩) (hb.frame (· ∈ p)),fun h=>by cases h⟩
 exact Or.inr (Or.inl hx)
end
open Go.ChangeShapes Go.WideShapes Go.ChangeAt Go.RowKit Go.Deep Go.Joins
section
variable {H:Type} {enc:TypeId × Value→H} {P:Program} {w:World}
theorem u8_of_wf {n:Int} (h:(Lit.int .u8 n).wf=true):0≤n∧n≤255:=by
 simpa [Lit.wf,IntKind.min,IntKind.max,IntKind.signed,IntKind.bits] using h
end
open Go.ChangeShapes Go.WideShapes Go.ChangeAt Go.RowKit Go.Deep Go.Joins
section
variable {H:Type} {enc:TypeId × Value→H} {P:Program} {w:World}
theorem rd_num {k:IntKind} {b0:Nat} {t:TypeId} {v:Value} {d:DataW H} {p:List MemPlace} (ht:P.underlying t=some (.int k)) (hv:Value.okWide P w .any b0 t v) (h:DataW.Trod enc P w 0 (fun _=>true) true t v d p):∃n,v = .int k n∧(Lit.int k n).wf=true:=by
 obtain ⟨n,rfl⟩:=okWide_int ht hv
 obtain ⟨fuel,hf⟩:=h
 obtain ⟨m,e,_,hw⟩:=DataW.trod_int ht hf
 simp [Value.cells] at e
 subst e
 exact ⟨_,rfl,hw⟩
theorem rd_u8 {b0:Nat} {t:TypeId} {v:Value} {d:DataW H} {p:List MemPlace} (ht:P.underlying t=some (.int .u8)) (hv:Value.okWide P w .any b0 t v) (h:DataW.Trod enc P w 0 (fun _=>true) true t v d p):∃n,v = .int .u8 n∧0≤n∧n≤255:=by
 obtain ⟨n,h1,h2⟩:=rd_num ht hv h
 exact ⟨n,h1,u8_of_wf h2⟩
end
end Go.Proofs.Yticieifacalocaa
