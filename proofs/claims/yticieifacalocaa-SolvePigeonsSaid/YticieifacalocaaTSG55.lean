/- LawSPi -/
import Derived.Test.YticieifacalocaaTSG54
namespace Go.Proofs.Yticieifacalocaa
open Go.RowKit
set_option maxRecDepth 100000 in
theorem sM (i j k:Nat) (w:World) (hi:i≤3) (hj:j≤3) (hk:k≤3):Calls Try.prog 24 #[.int .i64 (i:Int), .int .i64 (j:Int), .int .i64 (k:Int)] w fun e w'=>e = .returned (.int .i64 ((pairN i j k:Nat):Int))∧w'=w:=by
 have hik:i * k≤9:=Nat.mul_le_mul hi hk
 have hm:(i:Int) * (k:Int)=((i * k:Nat):Int):=by simp
 by_cases h:i<j
 ·have e:pairN i j k=i * k+(j-1)+1:=by unfold pairN;rw [if_pos h]
  rw [e]
  generalize i * k=p at *
  have d:decide ((j:Int) > (i:Int))=true:=by simp;omega
  have d2:(j:Int) > (i:Int):=by omega
  go_enter Try.func24,Try.ntmps24
  go_wp2_with fail
  go_ret
  refine ⟨?_,rfl⟩
  show Ending.returned (Value.int .i64 ((p:Int)+((j:Int)-1)+1))=_
  rw [show (p:Int)+((j:Int)-1)+1=((p+(j-1)+1:Nat):Int) by omega]
 ·have e:pairN i j k=i * k+j+1:=by unfold pairN;rw [if_neg h]
  rw [e]
  generalize i * k=p at *
  have d:decide ((j:Int) > (i:Int))=false:=by simp;omega
  have d2:¬(j:Int) > (i:Int):=by omega
  go_enter Try.func24,Try.ntmps24
  go_wp2_with fail
  go_ret
  exact ⟨by congr 2,rfl⟩
def FBx (w0 wr:World) (gk X:Nat) (ints bools:Int) (ds:List Diff) (xss:List (List Int)):Prop :=
 ∃(A:Option Addr) (n c:Nat) (A':Option Addr) (n' c':Nat) (us:List Value),n=ds.length∧us.length=n'∧FB w0 wr gk X ints bools ds (.slice A n c) (.slice A' n' c') us xss
set_option maxRecDepth 100000 in
set_option maxHeartbeats 16000000 in
theorem lawSPi (n:Int) (w:World) (hn0:0≤n) (hn1:n≤255) :
  Calls Try.prog 8 #[.int .u8 n] w fun e w'=>e = .returned (.bool true)∧Below w.heap.size w w':=by
 obtain ⟨iS,hiS,hzS0,hzS1,hzS2⟩:=qC bZ
 obtain ⟨iD,hiD,hzD0,hzD1,hzD2⟩:=qC aU
 obtain ⟨r,hr⟩:∃r:Nat,n.tmod 3=(r:Int):=⟨(n.tmod 3).toNat,by have:=uT 3 hn0;omega⟩
 have hr9:r<3:=by have:=vZ n (b:=3) (by omega);omega
 obtain ⟨k,hk⟩:∃k:Nat,k=1+r:=⟨_,rfl⟩
 have hk1:1≤k:=by omega
 have hk3:k≤3:=by omega
 have hkr:(1:Int)+(r:Int)=(k:Int):=by omega
 have HKI:Hid (I64 ((k:Int)+2)):=Lib.hid (by constructor<;>omega)
 clear hk
 go_enter Try.func8,Try.ntmps8
 go_upto_region 3 with fail
 have HF0:=Lib.hid (FB.start w ((k:Int)+2) 0)
 generalize w.alloc (.cells #[.int .i64 ((k:Int)+2), .int .i64 0, .slice none 0 0, .slice none 0 0] 29)=W at *
 clear hr hr9 hkr hn0 hn1
 go_wp2_with fail
 go_loopw [5] (fun iv wr=>∃i:Nat,i≤k+1∧iv = .int .i64 (i:Int)∧Hid (FBx w wr w.heap.size w.heap.size ((k:Int)+2) 0 (cY k i) [])) (fun iv _=>k+1-(intOf iv).toNat)
 case atStart=>exact ⟨0,zP _,rfl,Lib.hid ⟨none,0,0,none,0,0,[],rfl,rfl,HF0.out⟩⟩
 case round =>
  obtain ⟨i,hik,rfl,HR⟩:=hrel
  clear HF0
  by_cases hlt:i≤k
  ·have di:decide ((i:Int)≤(k:Int))=true:=by simp;omega
   have HKL:=Lib.hid hlt
   go_wp2_with fail
   go_loopw [6] (fun jv wr=>∃j:Nat,j≤k+1∧jv = .int .i64 (j:Int)∧Hid (FBx w wr w.heap.size w.heap.size ((k:Int)+2) 0 (cY k i++rowP i j) [])) (fun jv _=>k+1-(intOf jv).toNat)
   case atStart=>exact ⟨0,zP _,rfl,by rw [show cY k i++rowP i 0=cY k i by simp [rowP]];exact HR⟩
   case round =>
    obtain ⟨j,hjk,rfl,HR⟩:=hrel
    by_cases hlj:j≤k
    ·have dj:decide ((j:Int)≤(k:Int))=true:=by simp;omega
     have HJL:=Lib.hid hlj
     by_cases hij:j=i
     ·subst hij
      have HR2:Hid (FBx w wr w.heap.size w.heap.size ((k:Int)+2) 0 (cY k j++rowP j (j+1)) []):=by rw [rowP_same];exact HR
      clear HR
      go_wp2_with fail
      have hlj:=HJL.out
      go_roundw
      case rel=>exact ⟨j+1,by omega,by go_num,HR2⟩
      case measure=>simp [intOf];omega
     ·have dij:((i:Int) != (j:Int))=true:=by simp;omega
      have dij2:¬((i:Int)=(j:Int)):=by omega
      have dij3:¬(i=j):=fun h=>hij h.symm
      have HIJ:=Lib.hid hij
      clear hij
      obtain ⟨A,n,c,A',n',c',us,hn,hu,HFB⟩:=HR.out
      have HNE:=Lib.hid hn
      have HUE:=Lib.hid hu
      have HFB:=Lib.hid HFB
      clear hn hu
      have HDO:Hid (∀d∈([⟨(i:Int),(j:Int), -1⟩]:List Diff),d.ok):=Lib.hid (by intro d hd;simp only [zV,kA,jI] at hd;rcases hd with rfl<;>(refine ⟨⟨?_,?_⟩,⟨?_,?_⟩,⟨?_,?_⟩⟩<;>simp only<;>omega))
      have hnb:n≤100:=by have h:=HNE.out;have h2:=(show (cY k i++rowP i j).length≤100 by have h3:=pigA_len k i;have h4:=pM i j;have h5:i * (k+1)≤3 * 4:=Nat.mul_le_mul (by omega) (by omega);rw [zH];omega);omega
      have HNN:Hid (∀(jj:Nat) (uu:Value),([.int .i64 ((i:Int)), .int .i64 ((j:Int)), .int .i64 (-1)]:List Value)[jj]? = some uu→(wr.alloc (.cells #[.int .i64 ((i:Int)), .int .i64 ((j:Int)), .int .i64 (-1)] 50)).cell? ((⟨wr.heap.size,0,none⟩:Addr).add jj)=some uu):=Lib.hid (wR wr _ [.int .i64 ((i:Int)), .int .i64 ((j:Int)), .int .i64 (-1)] rfl)
      have HO1:Hid (∀u∈([.int .i64 ((i:Int)), .int .i64 ((j:Int)), .int .i64 (-1)]:List Value),u.oneCell'=true):=Lib.hid (by intro u hu;simp at hu;rcases hu with rfl|rfl|rfl<;>rfl)
      have HM1:Hid (n+1≤maxLen):=by refine Lib.hid ?_;unfold maxLen;omega
      have HM2:Hid ((n+1) * 24≤140737488355328):=by refine Lib.hid ?_;omega
      have HM3:Hid (w.heap.size+1≤(wr.alloc (.cells #[.int .i64 ((i:Int)), .int .i64 ((j:Int)), .int .i64 (-1)] 50)).heap.size):=Lib.hid (by have:=HFB.out.b.lt;simp;omega)
      have HOW:Hid ((wr.alloc (.cells #[.int .i64 ((i:Int)), .int .i64 ((j:Int)), .int .i64 (-1)] 50)).ownsRow (w.heap.size+1) 50 3 (.slice A n c) n ((cY k i++rowP i j).flatMap Diff.cells)):=Lib.hid (by have h:=HFB.out.a.alloc (.cells #[.int .i64 ((i:Int)), .int .i64 ((j:Int)), .int .i64 (-1)] 50);rw [←HNE.out] at h;exact h)
      have s2:=HFB.out.b.cell 2
      simp only [zA,zB,zC] at s2
      clear hnb
      go_upto_region 10 with fail
      go_wp2_with (at_builtin;refine zW _ rfl _ _ 26 rfl (w.heap.size+1) 50 iD (.agg #[.int .i64 0, .int .i64 0, .int .i64 0]) 3 24 Try.underlying26 hiD hzD0 hzD1 hzD2 rfl (by decide) _ _ _ rfl HOW.out ⟨wr.heap.size,0,none⟩ 1 1 [.int .i64 ((i:Int)), .int .i64 ((j:Int)), .int .i64 (-1)] rfl rfl HNN.out HO1.out HM1.out HM2.out HM3.out ?_)
      intro v8 w8 hown hg _ hat
      obtain ⟨A8,c8,hv8,hb8,hfb8⟩:=HFB.out.pushA (n:=1) (news:=[⟨(i:Int),(j:Int), -1⟩]) HDO.out (by rw [←HNE.out];simpa [Diff.cells] using hown) rfl hg (by simpa using hat)
      rw [←HNE.out] at hv8
      subst hv8
      have HFB8:=Lib.hid hfb8
      have HNE8:Hid (n+1=((cY k i++rowP i j)++([⟨(i:Int),(j:Int), -1⟩]:List Diff)).length):=Lib.hid (by rw [zH,HNE.out];rfl)
      have s8:=hb8.cell 2
      have f8:=hb8.frozen 2
      simp only [zA,zB,zC] at s8
      clear hfb8 hb8 hown hg hat s2 HNN HO1 HM3 HOW HDO HFB
      rw [zZ,←rowP_step HIJ.out] at HFB8 HNE8
      clear HNE HR
      go_wp2_with fail
      have hlj:=HJL.out
      go_roundw
      case rel=>exact ⟨j+1,by omega,by go_num,Lib.hid ⟨A8,n+1,c8,A',n',c',us,HNE8.out,HUE.out,HFB8.out⟩⟩
      case measure=>simp [intOf];omega
    ·obtain rfl:j=k+1:=by omega
     have dj:decide (((k+1:Nat):Int)≤(k:Int))=false:=by simp;omega
     have dj2:¬(((k+1:Nat):Int)≤(k:Int)):=by omega
     rw [nJ] at HR
     go_wp2_with fail
     have hlt:=HKL.out
     go_roundw
     case rel=>exact ⟨i+1,by omega,by go_num,HR⟩
     case measure=>simp [intOf];omega
  ·obtain rfl:i=k+1:=by omega
   have di:decide (((k+1:Nat):Int)≤(k:Int))=false:=by simp;omega
   have di2:¬(((k+1:Nat):Int)≤(k:Int)):=by omega
   clear di
   have HR0:Hid (FBx w wr w.heap.size w.heap.size ((k:Int)+2) 0 (cY k (k+1)) (mG k 0)):=HR
   clear HR hik hlt
   go_wp2_with fail
   go_loopw [7,8] (fun iv _ wr=>∃i:Nat,i≤k+1∧iv = .int .i64 (i:Int)∧Hid (FBx w wr w.heap.size w.heap.size ((k:Int)+2) 0 (cY k (k+1)) (mG k i))) (fun iv _ _=>k+1-(intOf iv).toNat)
   case atStart=>exact ⟨0,zP _,rfl,HR0⟩
   case round =>
    obtain ⟨i,hik,rfl,HR⟩:=hrel
    clear HR0 di2
    by_cases hlt:i≤k
    ·have di:decide ((i:Int)≤(k:Int))=true:=by simp;omega
     have HKL:=Lib.hid hlt
     go_wp2_with fail
     go_loopw [8] (fun jv wr=>∃j:Nat,i+1≤j∧j≤k+1∧jv = .int .i64 (j:Int)∧Hid (FBx w wr w.heap.size w.heap.size ((k:Int)+2) 0 (cY k (k+1)) (mG k i++rowQ k i j))) (fun jv _=>k+1-(intOf jv).toNat)
     case atStart=>exact ⟨i+1,Nat.le_refl _,by omega,by go_num,by rw [rowQ_start,yS];exact HR⟩
     case round =>
      obtain ⟨j,hij,hjk,rfl,HR⟩:=hrel
      by_cases hlj:j≤k
      ·have dj:decide ((j:Int)≤(k:Int))=true:=by simp;omega
       have HJL:=Lib.hid hlj
       have HIJ:=Lib.hid hij
       obtain ⟨A,n,c,A',n',c',us,hn,hu,HFB⟩:=HR.out
       have HNE:=Lib.hid hn
       have HUE:=Lib.hid hu
       have HFB:=Lib.hid HFB
       clear hn hu
       obtain ⟨pa,hpa⟩:∃p:Nat,p=pairN i j k:=⟨_,rfl⟩
       obtain ⟨pb,hpb⟩:∃p:Nat,p=pairN j i k:=⟨_,rfl⟩
       have HPA:=Lib.hid hpa
       have HPB:=Lib.hid hpb
       have hcl:=HUE.out
       have hpl:pa≤20∧pb≤20:=by
        have h1:i * k≤3 * 3:=Nat.mul_le_mul (by omega) hk3
        have h2:j * k≤3 * 3:=Nat.mul_le_mul (by omega) hk3
        rw [hpa,hpb];unfold pairN;constructor<;>split<;>omega
       have HCA:Hid (∀W,Calls Try.prog 24 #[.int .i64 (i:Int), .int .i64 (j:Int), .int .i64 (k:Int)] W fun e w'=>e = .returned (.int .i64 (pa:Int))∧w'=W):=Lib.hid (fun W=>by rw [HPA.out];exact sM i j k W (by omega) (by omega) hk3)
       have HCB:Hid (∀W,Calls Try.prog 24 #[.int .i64 (j:Int), .int .i64 (i:Int), .int .i64 (k:Int)] W fun e w'=>e = .returned (.int .i64 (pb:Int))∧w'=W):=Lib.hid (fun W=>by rw [HPB.out];exact sM j i k W (by omega) (by omega) hk3)
       have hul:n'≤100:=by
        have h1:=HFB.out.lenC
        have h2:(mG k i++rowQ k i j).length≤100:=by have h3:=rK k i;have h4:=rF k i j;have h5:i * (k+1)≤3 * 4:=Nat.mul_le_mul (by omega) (by omega);rw [zH];omega
        omega
       clear hpa hpb hcl
       have HRI:Hid (∀(jj:Nat) (u:Value) (xs:List Int),([.slice (some ⟨wr.heap.size,0,none⟩) 2 2]:List Value)[jj]? = some u→[[(pa:Int),(pb:Int)]][jj]? = some xs→IntsO ((wr.alloc (.cells #[.int .i64 (pa:Int), .int .i64 (pb:Int)] 3)).alloc (.cells #[.slice (some ⟨wr.heap.size,0,none⟩) 2 2] 33)) (fun b=>wr.heap.size≤b) u xs):=Lib.hid (by
        intro jj u xs hu hx
        obtain rfl:jj=0:=by cases jj with|zero=>rfl|succ j=>simp at hu
        simp at hu hx
        subst hu hx
        exact (bW wr [(pa:Int),(pb:Int)] (fun x hx=>by simp at hx;rcases hx with rfl|rfl<;>(constructor<;>omega)) (by simp [maxLen])).keep ((zN _ _).alloc (Nat.le_refl _) _))
       have HNN:Hid (∀(jj:Nat) (uu:Value),([.slice (some ⟨wr.heap.size,0,none⟩) 2 2]:List Value)[jj]? = some uu→((wr.alloc (.cells #[.int .i64 (pa:Int), .int .i64 (pb:Int)] 3)).alloc (.cells #[.slice (some ⟨wr.heap.size,0,none⟩) 2 2] 33)).cell? ((⟨wr.heap.size+1,0,none⟩:Addr).add jj)=some uu):=Lib.hid (wR (wr.alloc (.cells #[.int .i64 (pa:Int), .int .i64 (pb:Int)] 3)) _ [.slice (some ⟨wr.heap.size,0,none⟩) 2 2] (by simp))
       have HO1:Hid (∀u∈([.slice (some ⟨wr.heap.size,0,none⟩) 2 2]:List Value),u.oneCell'=true):=Lib.hid (by intro u hu;rw [zI.1 hu];rfl)
       have HM1:Hid (n'+1≤maxLen):=by refine Lib.hid ?_;unfold maxLen;omega
       have HM2:Hid ((n'+1) * 24≤140737488355328):=by refine Lib.hid ?_;omega
       have HM3:Hid (w.heap.size+1≤((wr.alloc (.cells #[.int .i64 (pa:Int), .int .i64 (pb:Int)] 3)).alloc (.cells #[.slice (some ⟨wr.heap.size,0,none⟩) 2 2] 33)).heap.size):=Lib.hid (by have:=HFB.out.b.lt;simp;omega)
       have HOW:Hid (((wr.alloc (.cells #[.int .i64 (pa:Int), .int .i64 (pb:Int)] 3)).alloc (.cells #[.slice (some ⟨wr.heap.size,0,none⟩) 2 2] 33)).ownsRow (w.heap.size+1) 33 1 (.slice A' n' c') n' us):=Lib.hid (by have h:=(HFB.out.m.1.alloc (.cells #[.int .i64 (pa:Int), .int .i64 (pb:Int)] 3)).alloc (.cells #[.slice (some ⟨wr.heap.size,0,none⟩) 2 2] 33);rw [HUE.out] at h;exact h)
       have s3:=HFB.out.b.cell 3
       have s3a:=(HFB.out.b.alloc (.cells #[.int .i64 (pa:Int), .int .i64 (pb:Int)] 3)).cell 3
       have s3b:=((HFB.out.b.alloc (.cells #[.int .i64 (pa:Int), .int .i64 (pb:Int)] 3)).alloc (.cells #[.slice (some ⟨wr.heap.size,0,none⟩) 2 2] 33)).cell 3
       simp only [zA,zB,zC] at s3 s3a s3b
       clear hpl hul
       go_upto_region 17 with fail
       go_region_law (first
        | (refine wC rfl 24 #[.tmp 55, .tmp 56, .tmp 57] _ rfl _ Try.func24 (by kernel_rfl) (by kernel_rfl) #[.int .i64 (i:Int), .int .i64 (j:Int), .int .i64 (k:Int)] (by first|rfl|(simp [Act.eval];done)|(simp [Act.eval,Act.put];done)) (HCA.out _) (fun e w' h=>⟨_,h.1⟩) ?_;rintro va wa ⟨hva,rfl⟩;injection hva with hva;subst hva)
        | (refine wC rfl 24 #[.tmp 59, .tmp 60, .tmp 61] _ rfl _ Try.func24 (by kernel_rfl) (by kernel_rfl) #[.int .i64 (j:Int), .int .i64 (i:Int), .int .i64 (k:Int)] (by first|rfl|(simp [Act.eval];done)|(simp [Act.eval,Act.put];done)) (HCB.out _) (fun e w' h=>⟨_,h.1⟩) ?_;rintro va wa ⟨hva,rfl⟩;injection hva with hva;subst hva)
        | (refine wB rfl (.tmp 54) (.tmp 64) 27 rfl (w.heap.size+1) 33 iS (.slice none 0 0) 1 24 Try.underlying27 hiS hzS0 hzS1 hzS2 rfl (by decide) (.slice A' n' c') n' us (by first|rfl|simp [Act.eval]) HOW.out.drew ⟨wr.heap.size+1,0,none⟩ 1 1 [.slice (some ⟨wr.heap.size,0,none⟩) 2 2] (by first|rfl|simp [Act.eval]) rfl HNN.out HO1.out HM1.out HM2.out HM3.out ?_;intro v9 w9 hown hg hat;obtain ⟨A9,c9,hv9,hb9,hfb9⟩:=HFB.out.pushC (n:=1) (nus:=[.slice (some ⟨wr.heap.size,0,none⟩) 2 2]) (nxss:=[[(pa:Int),(pb:Int)]]) (((zN _ _).alloc (Nat.le_refl _) _).alloc (by simp) _) rfl HRI.out (by rw [HUE.out];exact hown) rfl (show ((wr.alloc _).alloc _).grownBy w9 _ from ⟨hg.os,hg.tape,hg.output,hg.size,hg.block⟩) (by simpa using hat);rw [HUE.out] at hv9;subst hv9;have HFB9:=Lib.hid hfb9;have s9:=hb9.cell 3;have f9:=hb9.frozen 3;simp only [zA,zB,zC] at s9;clear hfb9 hb9 hown hg hat))
       all_goals
        rw [zZ,HPA.out,HPB.out,←rowQ_step (by have:=HIJ.out;omega)] at HFB9
        have HUE9:Hid ((us++([.slice (some ⟨wr.heap.size,0,none⟩) 2 2]:List Value)).length=n'+1):=Lib.hid (by rw [zH,HUE.out];rfl)
        clear s3 s3a s3b s9 f9 HRI HNN HO1 HM3 HOW HFB HR HCA HCB
        go_wp2_with fail
        have hlj:=HJL.out
        have hij:=HIJ.out
        go_roundw
        case rel=>exact ⟨j+1,by omega,by omega,by go_num,Lib.hid ⟨A,n,c,A9,n'+1,c9,_,HNE.out,HUE9.out,HFB9.out⟩⟩
        case measure=>simp [intOf];omega
      ·obtain rfl:j=k+1:=by omega
       have dj:decide (((k+1:Nat):Int)≤(k:Int))=false:=by simp;omega
       have dj2:¬(((k+1:Nat):Int)≤(k:Int)):=by omega
       rw [nS] at HR
       go_wp2_with fail
       have hlt:=HKL.out
       go_roundw
       case rel=>exact ⟨i+1,by omega,by go_num,HR⟩
       case measure=>simp [intOf];omega
    ·obtain rfl:i=k+1:=by omega
     have di:decide (((k+1:Nat):Int)≤(k:Int))=false:=by simp;omega
     have di2:¬(((k+1:Nat):Int)≤(k:Int)):=by omega
     have HR0:Hid (FBx w wr w.heap.size w.heap.size ((k:Int)+2) 0 (bO k 0) (cJ k 0)):=by rw [iZ,mM];exact HR
     clear HR hik hlt
     go_wp2_with fail
     go_loopw [9] (fun iv wr=>∃i:Nat,i≤k+1∧iv = .int .i64 (i:Int)∧Hid (FBx w wr w.heap.size w.heap.size ((k:Int)+2) 0 (bO k i) (cJ k i))) (fun iv _=>k+1-(intOf iv).toNat)
     case atStart=>exact ⟨0,zP _,rfl,HR0⟩
     case round =>
      obtain ⟨i,hik,rfl,HR⟩:=hrel
      clear HR0 di di2
      by_cases hlt:i≤k
      ·have di:decide ((i:Int)≤(k:Int))=true:=by simp;omega
       have HKL:=Lib.hid hlt
       obtain ⟨A,n,c,A',n',c',us,hn,hu,HFB⟩:=HR.out
       have HNE:=Lib.hid hn
       have HUE:=Lib.hid hu
       have HFB:=Lib.hid HFB
       clear hn hu
       have HDO:Hid (∀d∈([⟨(i:Int),(k:Int)+1,(k:Int)-1⟩,⟨(k:Int)+1,(i:Int),0⟩]:List Diff),d.ok):=Lib.hid (by intro d hd;simp only [zV,kA,jI] at hd;rcases hd with rfl|rfl<;>(refine ⟨⟨?_,?_⟩,⟨?_,?_⟩,⟨?_,?_⟩⟩<;>simp only<;>omega))
       have hnb:n≤100:=by have h:=HNE.out;have h2:=(show (bO k i).length≤100 by rw [fM hk1 hk3];have h5:(k+1) * k≤4 * 3:=Nat.mul_le_mul (by omega) (by omega);omega);omega
       have HNN:Hid (∀(jj:Nat) (uu:Value),([.int .i64 ((i:Int)), .int .i64 ((k:Int)+1), .int .i64 ((k:Int)-1), .int .i64 ((k:Int)+1), .int .i64 ((i:Int)), .int .i64 (0)]:List Value)[jj]? = some uu→(wr.alloc (.cells #[.int .i64 ((i:Int)), .int .i64 ((k:Int)+1), .int .i64 ((k:Int)-1), .int .i64 ((k:Int)+1), .int .i64 ((i:Int)), .int .i64 (0)] 50)).cell? ((⟨wr.heap.size,0,none⟩:Addr).add jj)=some uu):=Lib.hid (wR wr _ [.int .i64 ((i:Int)), .int .i64 ((k:Int)+1), .int .i64 ((k:Int)-1), .int .i64 ((k:Int)+1), .int .i64 ((i:Int)), .int .i64 (0)] rfl)
       have HO1:Hid (∀u∈([.int .i64 ((i:Int)), .int .i64 ((k:Int)+1), .int .i64 ((k:Int)-1), .int .i64 ((k:Int)+1), .int .i64 ((i:Int)), .int .i64 (0)]:List Value),u.oneCell'=true):=Lib.hid (by intro u hu;simp at hu;rcases hu with rfl|rfl|rfl|rfl|rfl|rfl<;>rfl)
       have HM1:Hid (n+2≤maxLen):=by refine Lib.hid ?_;unfold maxLen;omega
       have HM2:Hid ((n+2) * 24≤140737488355328):=by refine Lib.hid ?_;omega
       have HM3:Hid (w.heap.size+1≤(wr.alloc (.cells #[.int .i64 ((i:Int)), .int .i64 ((k:Int)+1), .int .i64 ((k:Int)-1), .int .i64 ((k:Int)+1), .int .i64 ((i:Int)), .int .i64 (0)] 50)).heap.size):=Lib.hid (by have:=HFB.out.b.lt;simp;omega)
       have HOW:Hid ((wr.alloc (.cells #[.int .i64 ((i:Int)), .int .i64 ((k:Int)+1), .int .i64 ((k:Int)-1), .int .i64 ((k:Int)+1), .int .i64 ((i:Int)), .int .i64 (0)] 50)).ownsRow (w.heap.size+1) 50 3 (.slice A n c) n ((bO k i).flatMap Diff.cells)):=Lib.hid (by have h:=HFB.out.a.alloc (.cells #[.int .i64 ((i:Int)), .int .i64 ((k:Int)+1), .int .i64 ((k:Int)-1), .int .i64 ((k:Int)+1), .int .i64 ((i:Int)), .int .i64 (0)] 50);rw [←HNE.out] at h;exact h)
       have s2:=HFB.out.b.cell 2
       simp only [zA,zB,zC] at s2
       clear hnb
       go_upto_region 21 with fail
       go_wp2_with (at_builtin;refine zW _ rfl _ _ 26 rfl (w.heap.size+1) 50 iD (.agg #[.int .i64 0, .int .i64 0, .int .i64 0]) 3 24 Try.underlying26 hiD hzD0 hzD1 hzD2 rfl (by decide) _ _ _ rfl HOW.out ⟨wr.heap.size,0,none⟩ 2 2 [.int .i64 ((i:Int)), .int .i64 ((k:Int)+1), .int .i64 ((k:Int)-1), .int .i64 ((k:Int)+1), .int .i64 ((i:Int)), .int .i64 (0)] rfl rfl HNN.out HO1.out HM1.out HM2.out HM3.out ?_)
       intro v8 w8 hown hg _ hat
       obtain ⟨A8,c8,hv8,hb8,hfb8⟩:=HFB.out.pushA (n:=2) (news:=[⟨(i:Int),(k:Int)+1,(k:Int)-1⟩,⟨(k:Int)+1,(i:Int),0⟩]) HDO.out (by rw [←HNE.out];simpa [Diff.cells] using hown) rfl hg (by simpa using hat)
       rw [←HNE.out] at hv8
       subst hv8
       have HFB8:=Lib.hid hfb8
       have HNE8:Hid (n+2=((bO k i)++([⟨(i:Int),(k:Int)+1,(k:Int)-1⟩,⟨(k:Int)+1,(i:Int),0⟩]:List Diff)).length):=Lib.hid (by rw [zH,HNE.out];rfl)
       have s8:=hb8.cell 2
       have f8:=hb8.frozen 2
       simp only [zA,zB,zC] at s8
       clear hfb8 hb8 hown hg hat s2 HNN HO1 HM3 HOW HDO HFB
       rw [mK] at HFB8 HNE8
       go_upto_region 22 with fail
       generalize w8.setCell ⟨w.heap.size,2,none⟩ (.slice A8 (n+2) c8)=wa at *
       have HN8:Hid (n+2=(k+1) * k+2 * i+2):=Lib.hid (by rw [HNE8.out,fM hk1 hk3];omega)
       clear s8 f8 HNE HR
       obtain ⟨pa,hpa⟩:∃p:Nat,p=(k+1) * k+2 * i+1:=⟨_,rfl⟩
       obtain ⟨pb,hpb⟩:∃p:Nat,p=(k+1) * k+2 * i+2:=⟨_,rfl⟩
       have HPA:=Lib.hid hpa
       have HPB:=Lib.hid hpb
       have hn8:=HN8.out
       have hkk:(k+1) * k≤12:=Nat.mul_le_mul (by omega:k+1≤4) hk3
       have hna:n+2=pb:=by omega
       have hnc:((n+2:Nat):Int)-1=(pa:Int):=by omega
       have hpl:pa≤30∧pb≤30:=by omega
       have hul:n'≤100:=by
        have h1:=HFB8.out.lenC
        have h2:=pigC3_len k i
        have h3:=HUE.out
        have h5:(k+1) * (k+1)≤4 * 4:=Nat.mul_le_mul (by omega) (by omega)
        omega
       clear hpa hpb hn8 hkk
       have hna2:n=pb-2:=by omega
       have hpb2:2≤pb:=by omega
       have HRI:Hid (∀(jj:Nat) (u:Value) (xs:List Int),([.slice (some ⟨wa.heap.size,0,none⟩) 1 1, .slice (some ⟨wa.heap.size+1,0,none⟩) 1 1]:List Value)[jj]? = some u→[[(pa:Int)],[(pb:Int)]][jj]? = some xs→IntsO (((wa.alloc (.cells #[.int .i64 (pa:Int)] 3)).alloc (.cells #[.int .i64 (pb:Int)] 3)).alloc (.cells #[.slice (some ⟨wa.heap.size,0,none⟩) 1 1, .slice (some ⟨wa.heap.size+1,0,none⟩) 1 1] 33)) (fun b=>wa.heap.size≤b) u xs):=Lib.hid (by
        intro jj u xs hu hx
        have hj:jj=0∨jj=1:=by
         rcases jj with _|_|jj
         ·exact .inl rfl
         ·exact .inr rfl
         ·simp at hu
        rcases hj with rfl|rfl
        ·simp at hu hx
         subst hu hx
         exact ((bW wa [(pa:Int)] (fun x hx=>by rw [zI.1 hx];constructor<;>omega) (by simp [maxLen])).keep ((zN _ _).alloc (Nat.le_refl _) _)).keep ((zN _ _).alloc (Nat.le_refl _) _)
        ·simp at hu hx
         subst hu hx
         have h:=((bW (wa.alloc (.cells #[.int .i64 (pa:Int)] 3)) [(pb:Int)] (fun x hx=>by rw [zI.1 hx];constructor<;>omega) (by simp [maxLen])).keep ((zN _ _).alloc (Nat.le_refl _) (.cells #[.slice (some ⟨wa.heap.size,0,none⟩) 1 1, .slice (some ⟨wa.heap.size+1,0,none⟩) 1 1] 33))).mono (Q:=fun b=>wa.heap.size≤b) (fun b _ hb=>by simp at hb;omega)
         simp only [xL] at h
         exact h)
       have HNN:Hid (∀(jj:Nat) (uu:Value),([.slice (some ⟨wa.heap.size,0,none⟩) 1 1, .slice (some ⟨wa.heap.size+1,0,none⟩) 1 1]:List Value)[jj]? = some uu→(((wa.alloc (.cells #[.int .i64 (pa:Int)] 3)).alloc (.cells #[.int .i64 (pb:Int)] 3)).alloc (.cells #[.slice (some ⟨wa.heap.size,0,none⟩) 1 1, .slice (some ⟨wa.heap.size+1,0,none⟩) 1 1] 33)).cell? ((⟨wa.heap.size+1+1,0,none⟩:Addr).add jj)=some uu):=Lib.hid (wR ((wa.alloc (.cells #[.int .i64 (pa:Int)] 3)).alloc (.cells #[.int .i64 (pb:Int)] 3)) _ [.slice (some ⟨wa.heap.size,0,none⟩) 1 1, .slice (some ⟨wa.heap.size+1,0,none⟩) 1 1] (by simp))
       have HO1:Hid (∀u∈([.slice (some ⟨wa.heap.size,0,none⟩) 1 1, .slice (some ⟨wa.heap.size+1,0,none⟩) 1 1]:List Value),u.oneCell'=true):=Lib.hid (by intro u hu;simp at hu;rcases hu with rfl|rfl<;>rfl)
       have HM1:Hid (n'+2≤maxLen):=by refine Lib.hid ?_;unfold maxLen;omega
       have HM2:Hid ((n'+2) * 24≤140737488355328):=by refine Lib.hid ?_;omega
       have HM3:Hid (w.heap.size+1≤(((wa.alloc (.cells #[.int .i64 (pa:Int)] 3)).alloc (.cells #[.int .i64 (pb:Int)] 3)).alloc (.cells #[.slice (some ⟨wa.heap.size,0,none⟩) 1 1, .slice (some ⟨wa.heap.size+1,0,none⟩) 1 1] 33)).heap.size):=Lib.hid (by have:=HFB8.out.b.lt;simp;omega)
       have HOW:Hid ((((wa.alloc (.cells #[.int .i64 (pa:Int)] 3)).alloc (.cells #[.int .i64 (pb:Int)] 3)).alloc (.cells #[.slice (some ⟨wa.heap.size,0,none⟩) 1 1, .slice (some ⟨wa.heap.size+1,0,none⟩) 1 1] 33)).ownsRow (w.heap.size+1) 33 1 (.slice A' n' c') n' us):=Lib.hid (by have h:=((HFB8.out.m.1.alloc (.cells #[.int .i64 (pa:Int)] 3)).alloc (.cells #[.int .i64 (pb:Int)] 3)).alloc (.cells #[.slice (some ⟨wa.heap.size,0,none⟩) 1 1, .slice (some ⟨wa.heap.size+1,0,none⟩) 1 1] 33);rw [HUE.out] at h;exact h)
       have s3:=HFB8.out.b.cell 3
       have s2:=HFB8.out.b.cell 2
       have s2a:=(HFB8.out.b.alloc (.cells #[.int .i64 (pa:Int)] 3)).cell 2
       simp only [zA,zB,zC] at s3 s2 s2a
       rw [hna] at s2 s2a
       have HNA:=Lib.hid hna
       have yw2:(pb:Int)-1=(pa:Int):=by omega
       have yw:wrap64 (pa:Int)=(pa:Int):=IntWalk.wrap64_in _ (by omega)
       clear hpl hul hna hnc hna2 hpb2
       go_wp2_with (at_builtin;refine zW _ rfl _ _ 27 rfl (w.heap.size+1) 33 iS (.slice none 0 0) 1 24 Try.underlying27 hiS hzS0 hzS1 hzS2 rfl (by decide) _ _ _ rfl HOW.out ⟨wa.heap.size+1+1,0,none⟩ 2 2 [.slice (some ⟨wa.heap.size,0,none⟩) 1 1, .slice (some ⟨wa.heap.size+1,0,none⟩) 1 1] rfl rfl HNN.out HO1.out HM1.out HM2.out HM3.out ?_)
       intro v9 w9 hown hg _ hat
       obtain ⟨A9,c9,hv9,hb9,hfb9⟩:=HFB8.out.pushC (n:=2) (nus:=[.slice (some ⟨wa.heap.size,0,none⟩) 1 1, .slice (some ⟨wa.heap.size+1,0,none⟩) 1 1]) (nxss:=[[(pa:Int)],[(pb:Int)]]) ((((zN _ _).alloc (Nat.le_refl _) _).alloc (by simp) _).alloc (by simp;omega) _) rfl HRI.out (by rw [HUE.out];exact hown) rfl hg (by simpa using hat)
       rw [HUE.out] at hv9
       subst hv9
       rw [HPA.out,HPB.out,mH] at hfb9
       have HFB9:=Lib.hid hfb9
       have HUE9:Hid ((us++([.slice (some ⟨wa.heap.size,0,none⟩) 1 1, .slice (some ⟨wa.heap.size+1,0,none⟩) 1 1]:List Value)).length=n'+2):=Lib.hid (by rw [zH,HUE.out];rfl)
       have s9:=hb9.cell 3
       have f9:=hb9.frozen 3
       simp only [zA,zB,zC] at s9
       clear hfb9 hb9 hown hg hat s2 s2a s3 yw yw2 HRI HNN HO1 HM3 HOW HFB8
       go_wp2_with fail
       have hlt:=HKL.out
       go_roundw
       case rel=>exact ⟨i+1,by omega,by go_num,Lib.hid ⟨A8,n+2,c8,A9,n'+2,c9,_,HNE8.out,HUE9.out,HFB9.out⟩⟩
       case measure=>simp [intOf];omega
      ·obtain rfl:i=k+1:=by omega
       have di:decide (((k+1:Nat):Int)≤(k:Int))=false:=by simp;omega
       have di2:¬(((k+1:Nat):Int)≤(k:Int)):=by omega
       obtain ⟨A,n,c,A',n',c',us,hn,hu,HFB⟩:=HR.out
       have HNE:=Lib.hid hn
       have HUE:=Lib.hid hu
       have HFB:=Lib.hid HFB
       clear hn hu
       have hnB:n=pigB k:=by rw [HNE.out,fM hk1 hk3];rfl
       have hB20:pigB k≤20:=by unfold pigB;have:(k+1) * k≤4 * 3:=Nat.mul_le_mul (by omega) (by omega);omega
       have HPV:=Lib.hid (fQ hk1 hk3)
       have HNB:=Lib.hid hnB
       have hn0':0<n':=by have h1:=HFB.out.lenC;have h2:=HUE.out;have h3:=HPV.out.2.2.2;show 0<n';have h4:(fG k).clauses=cJ k (k+1):=rfl;rw [h4] at h3;omega
       have HB20:=Lib.hid hB20
       have HN0:=Lib.hid hn0'
       have HNI:Hid (I64 (n:Int)):=Lib.hid (by constructor<;>omega)
       have HFB1:=Lib.hid (HFB.out.setI (n:Int))
       have s2:=HFB.out.b.cell 2
       have s1:=HFB.out.b.cell 1
       have f1:=HFB.out.b.frozen 1
       simp only [zA,zB,zC] at s2 s1
       clear hnB hB20 hn0'
       go_upto_region 24 with fail
       generalize wr.setCell ⟨w.heap.size,1,none⟩ (.int .i64 (n:Int))=w3 at *
       clear s2 s1 f1 HFB HR
       have EF:Hid ((⟨(k:Int)+2,(n:Int),bO k (k+1),cJ k (k+1)⟩:Form)=fG k):=Lib.hid (by rw [HNB.out];rfl)
       have HFF:Hid (IsForm w3 (.agg #[.int .i64 ((k:Int)+2), .int .i64 (n:Int), .slice A n c, .slice A' n' c']) (fG k)):=Lib.hid (by rw [←EF.out];exact HFB1.out.form HKI.out HNI.out)
       obtain ⟨o, -,hc⟩:=bT HPV.out.1 (B:=pigB k) rfl (by have:=HB20.out;omega) HPV.out.2.2.1 w3 _ HFF.out
       have HC:=Lib.hid hc
       clear hc
       have q0:=HFB1.out.b.cell 0
       have q1:=HFB1.out.b.cell 1
       have q2:=HFB1.out.b.cell 2
       have q3:=HFB1.out.b.cell 3
       simp only [zA,zB,zC] at q0 q1 q2 q3
       go_wp2_with fail
       refine HC.out.mono ?_
       rintro e w4 ⟨m0,m1,lv,rfl,hv4,hb4⟩
       have HEO:=Lib.hid (pig_ref hk1 hk3 hv4)
       obtain ⟨Am,nm,cm,Ax,nx,cx,rfl,rfl⟩:=hv4.shape
       have hb5:Below w4.heap.size w4 (w4.alloc (.cells #[.slice Am nm cm, .slice Ax nx cx] 35)):=(zN _ _).alloc (Nat.le_refl _) _
       have HMK:=Lib.hid (Blk.new w4 35 #[.slice Am nm cm, .slice Ax nx cx])
       have HV5:=Lib.hid (hv4.keep hb5)
       have HFB5:=Lib.hid ((HFB1.out.keep hb4).box (.cells #[.slice Am nm cm, .slice Ax nx cx] 35))
       have HFF5:=Lib.hid (HFF.out.keep (hb4.trans (hb5.mono hb4.size)))
       have HGM:Hid (w.heap.size<w4.heap.size):=Lib.hid (zX HFB1.out.b.lt hb4.size)
       have he:=HEO.out
       rw [he]
       clear hv4 hb4 hb5 HC HFF q0 q1 q2 q3 he HFB1
       go_upto_region 25 with fail
       generalize w4.alloc (.cells #[.slice Am nm cm, .slice Ax nx cx] 35)=w5 at *
       generalize w4.heap.size=mk at *
       have q0:=HFB5.out.b.cell 0
       have q1:=HFB5.out.b.cell 1
       have q2:=HFB5.out.b.cell 2
       have q3:=HFB5.out.b.cell 3
       have p0:=HMK.out.cell 0
       have p1:=HMK.out.cell 1
       simp only [zA,zB,zC] at q0 q1 q2 q3 p0 p1
       have HRT:Hid (Calls Try.prog 18 #[.agg #[.int .i64 ((k:Int)+2), .int .i64 (n:Int), .slice A n c, .slice A' n' c'], .agg #[.slice Am nm cm, .slice Ax nx cx],lv, .bool false] w5 fun e w'=>e = .returned (.bool true)∧Below w5.heap.size w5 w'):=Lib.hid (by have h:=aT HFF5.out HPV.out.1 HV5.out;rw [HEO.out] at h;exact h)
       go_wp2_with fail
       refine HRT.out.mono ?_
       rintro e w6 ⟨rfl,hb6⟩
       have HFB6:=Lib.hid (HFB5.out.keep hb6)
       have HMK6:=Lib.hid (HMK.out.keep hb6)
       have HR6:=Lib.hid HFB6.out.rest
       have HB6:=Lib.hid HFB6.out.bl
       clear hb6 q0 q1 q2 q3 p0 p1 HFB5 HMK HFF5 HV5 HRT HEO
       have hcn:n'≤c':=by obtain ⟨A2,c2,e2,h2, -⟩:=wD HFB6.out.m.1;injection e2 with e3 e4 e5;have:=HUE.out;omega
       obtain ⟨dp,hdp,hda⟩:=cut_fromM A' n' c' 1 (by have:=HN0.out;omega) hcn
       have ct:∀w,(Instr.slice 27 (.slice A' n' c') (some (.int .i64 1)) none none).run Try.prog w = .ok (.slice dp (n'-1) (c'-1)) w:=fun w=>by have:=hdp w;simpa using this
       have HDA:=Lib.hid hda
       have q3:=HFB6.out.b.cell 3
       have f3:=HFB6.out.b.frozen 3
       simp only [zA,zB,zC] at q3
       have HBK7:Hid (Blk (w6.setCell ⟨w.heap.size,3,none⟩ (.slice dp (n'-1) (c'-1))) w.heap.size 29 #[.int .i64 ((k:Int)+2), .int .i64 (n:Int), .slice A n c, .slice dp (n'-1) (c'-1)]):=Lib.hid (HFB6.out.b.set_ 3 _)
       have HR7:=Lib.hid (HR6.out.setG 3 (.slice dp (n'-1) (c'-1)))
       have HMK7:=Lib.hid (HMK6.out.grown (jZ w6 w.heap.size 3 (.slice dp (n'-1) (c'-1))) (fun e=>by have:=HGM.out;injection e;omega))
       have HB7:=Lib.hid (HB6.out.setCell (p:=⟨w.heap.size,3,none⟩) (Nat.le_refl _) (.slice dp (n'-1) (c'-1)))
       clear hdp hda hcn
       go_upto_region 28 with fail
       generalize w6.setCell ⟨w.heap.size,3,none⟩ (.slice dp (n'-1) (c'-1))=w7 at *
       clear q3 f3 ct HFB6 HMK6 HR6 HB6
       have EG:Hid ((⟨(k:Int)+2,(n:Int),bO k (k+1),(cJ k (k+1)).drop 1⟩:Form)=eJ k):=Lib.hid (by rw [HNB.out];rfl)
       have HFF7:Hid (IsForm w7 (.agg #[.int .i64 ((k:Int)+2), .int .i64 (n:Int), .slice A n c, .slice dp (n'-1) (c'-1)]) (eJ k)):=Lib.hid (by rw [←EG.out];exact HR7.out.form1 HUE.out HN0.out HDA.out HKI.out HNI.out)
       obtain ⟨o2,hg2,hc2⟩:=bT HPV.out.2.1 (B:=pigB k) rfl (by have:=HB20.out;omega) (pigG_lens hk1 hk3) w7 _ HFF7.out
       have HC2:=Lib.hid hc2
       have HEO2:=Lib.hid (pigG_mod hk1 hk3 hg2)
       clear hc2 hg2
       have q0:=HBK7.out.cell 0
       have q1:=HBK7.out.cell 1
       have q2:=HBK7.out.cell 2
       have q3:=HBK7.out.cell 3
       simp only [zA,zB,zC] at q0 q1 q2 q3
       go_wp2_with fail
       refine HC2.out.mono ?_
       rintro e w8 ⟨n0,n1,lv2,rfl,hv8,hb8⟩
       obtain ⟨An,nn,cn,Ay,ny,cy,rfl,rfl⟩:=hv8.shape
       have HMK8:=Lib.hid (HMK7.out.keep hb8)
       have HMK9:Hid (Blk ((w8.setCell ⟨mk,0,none⟩ (.slice An nn cn)).setCell ⟨mk,1,none⟩ (.slice Ay ny cy)) mk 35 #[.slice An nn cn, .slice Ay ny cy]):=Lib.hid ((HMK8.out.set_ 0 (.slice An nn cn)).set_ 1 (.slice Ay ny cy))
       have hwm:w.heap.size<mk:=HGM.out
       have HR9:=Lib.hid (((HR7.out.keep hb8).setX 0 (.slice An nn cn)).setX 1 (.slice Ay ny cy))
       have HBK9:=Lib.hid (((HBK7.out.keep hb8).grown (jZ w8 mk 0 (.slice An nn cn)) (fun e=>by injection e;omega)).grown (jZ _ mk 1 (.slice Ay ny cy)) (fun e=>by injection e;omega))
       have hgw:w.heap.size<w7.heap.size:=HBK7.out.lt
       have HB9:=Lib.hid (((HB7.out.trans (hb8.mono (xG hgw))).setCell (p:=⟨mk,0,none⟩) (xG hwm) (.slice An nn cn)).setCell (p:=⟨mk,1,none⟩) (xG hwm) (.slice Ay ny cy))
       have HV9:=Lib.hid (hv8.aside HEO2.out HMK8.out (dF (jZ w8 mk 0 (.slice An nn cn)) (jZ _ mk 1 (.slice Ay ny cy))))
       have e0:=HEO2.out
       rw [e0]
       have z0:=HMK8.out.frozen 0
       have z1:=HMK8.out.frozen 1
       have z2:=HMK8.out.cell 0
       have z3:=HMK8.out.cell 1
       simp only [zA,zB,zC] at z2 z3
       clear hv8 hb8 q0 q1 q2 q3 HC2 e0 HR7 HBK7 HB7 HMK7
       go_upto_region 29 with fail
       generalize (w8.setCell ⟨mk,0,none⟩ (.slice An nn cn)).setCell ⟨mk,1,none⟩ (.slice Ay ny cy)=w9 at *
       clear z0 z1 z2 z3 HMK8
       have HFF9:Hid (IsForm w9 (.agg #[.int .i64 ((k:Int)+2), .int .i64 (n:Int), .slice A n c, .slice dp (n'-1) (c'-1)]) (eJ k)):=Lib.hid (by rw [←EG.out];exact HR9.out.form1 HUE.out HN0.out HDA.out HKI.out HNI.out)
       have q0:=HBK9.out.cell 0
       have q1:=HBK9.out.cell 1
       have q2:=HBK9.out.cell 2
       have q3:=HBK9.out.cell 3
       have p0:=HMK9.out.cell 0
       have p1:=HMK9.out.cell 1
       simp only [zA,zB,zC] at q0 q1 q2 q3 p0 p1
       have HRT:Hid (Calls Try.prog 18 #[.agg #[.int .i64 ((k:Int)+2), .int .i64 (n:Int), .slice A n c, .slice dp (n'-1) (c'-1)], .agg #[.slice An nn cn, .slice Ay ny cy],lv2, .bool true] w9 fun e w'=>e = .returned (.bool true)∧Below w9.heap.size w9 w'):=Lib.hid (by have h:=aT HFF9.out HPV.out.2.1 HV9.out;rw [HEO2.out] at h;exact h)
       go_wp2_with fail
       refine HRT.out.mono ?_
       rintro e w10 ⟨rfl,hb10⟩
       have HB10:=Lib.hid (HB9.out.trans (hb10.mono (xG HBK9.out.lt)))
       clear hb10 q0 q1 q2 q3 p0 p1 HRT
       go_wp2_with fail
       refine (awake34 _).mono ?_
       rintro e w13 ⟨rfl,hb13⟩
       have HB13:=Lib.hid (HB10.out.trans (hb13.mono HB10.out.size))
       clear hb13
       go_wp2_with fail
       go_ret
       exact ⟨rfl,HB13.out⟩
end Go.Proofs.Yticieifacalocaa
