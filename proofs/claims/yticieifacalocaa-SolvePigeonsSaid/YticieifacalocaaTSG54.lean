/- Pig -/
import Derived.Test.YticieifacalocaaTSG51
namespace Go.Proofs.Yticieifacalocaa
open Go.RowKit
def pairN (i j k:Nat):Nat:=i * k+(if i<j then j-1 else j)+1
def rowP (i j:Nat):List Diff:=((List.range j).filter fun b=>decide (b≠i)).map fun (b:Nat)=>⟨(i:Int),(b:Int), -1⟩
def cY (k i:Nat):List Diff:=(List.range i).flatMap fun a=>rowP a (k+1)
def rowQ (k i j:Nat):List (List Int):=((List.range j).filter fun b=>decide (i<b)).map fun (b:Nat)=>[((pairN i b k:Nat):Int),((pairN b i k:Nat):Int)]
def mG (k i:Nat):List (List Int):=(List.range i).flatMap fun a=>rowQ k a (k+1)
def bO (k i:Nat):List Diff:=cY k (k+1)++(List.range i).flatMap fun (a:Nat)=>[⟨(a:Int),(k:Int)+1,(k:Int)-1⟩,⟨(k:Int)+1,(a:Int),0⟩]
def cJ (k i:Nat):List (List Int):=mG k (k+1)++(List.range i).flatMap fun (a:Nat)=>[[(((k+1) * k+2 * a+1:Nat):Int)],[(((k+1) * k+2 * a+2:Nat):Int)]]
def pigB (k:Nat):Nat:=(k+1) * k+2 * (k+1)
def fG (k:Nat):Form:=⟨(k:Int)+2,(pigB k:Int),bO k (k+1),cJ k (k+1)⟩
def eJ (k:Nat):Form:=⟨(k:Int)+2,(pigB k:Int),bO k (k+1),(cJ k (k+1)).drop 1⟩
theorem rowP_same (i:Nat):rowP i (i+1)=rowP i i:=by simp [rowP,List.range_succ,List.filter_append]
theorem rowP_step {i j:Nat} (h:j≠i):rowP i (j+1)=rowP i j++[⟨(i:Int),(j:Int), -1⟩]:=by simp [rowP,List.range_succ,List.filter_append,h]
theorem nJ (k i:Nat):cY k i++rowP i (k+1)=cY k (i+1):=by simp [cY,List.range_succ]
theorem rowQ_start (k i:Nat):rowQ k i (i+1)=[]:=by
 unfold rowQ
 rw [kG.2 fun b hb=>by have:=uB.1 hb;simp;omega]
 rfl
theorem rowQ_step {k i j:Nat} (h:i<j):rowQ k i (j+1)=rowQ k i j++[[((pairN i j k:Nat):Int),((pairN j i k:Nat):Int)]]:=by simp [rowQ,List.range_succ,List.filter_append,h]
theorem nS (k i:Nat):mG k i++rowQ k i (k+1)=mG k (i+1):=by simp [mG,List.range_succ]
theorem mK (k i:Nat):bO k i++[⟨(i:Int),(k:Int)+1,(k:Int)-1⟩,⟨(k:Int)+1,(i:Int),0⟩]=bO k (i+1):=by simp [bO,List.range_succ]
theorem mH (k i:Nat):cJ k i++[[(((k+1) * k+2 * i+1:Nat):Int)],[(((k+1) * k+2 * i+2:Nat):Int)]]=cJ k (i+1):=by simp [cJ,List.range_succ]
theorem iZ (k:Nat):bO k 0=cY k (k+1):=by simp [bO]
theorem mM (k:Nat):cJ k 0=mG k (k+1):=by simp [cJ]
theorem pM (i j:Nat):(rowP i j).length≤j:=by
 unfold rowP
 rw [List.length_map]
 exact qB (yM _ _) (by simp)
theorem rF (k i j:Nat):(rowQ k i j).length≤j:=by
 unfold rowQ
 rw [List.length_map]
 exact qB (yM _ _) (by simp)
theorem pigA_len (k i:Nat):(cY k i).length≤i * (k+1):=by
 induction i with
 | zero=>simp [cY]
 | succ i ih=>rw [←nJ,zH,vU];have:=pM i (k+1);omega
theorem rK (k i:Nat):(mG k i).length≤i * (k+1):=by
 induction i with
 | zero=>simp [mG]
 | succ i ih=>rw [←nS,zH,vU];have:=rF k i (k+1);omega
theorem fM {k:Nat} (h1:1≤k) (h3:k≤3) (i:Nat):(bO k i).length=(k+1) * k+2 * i:=by
 induction i with
 | zero =>
  rw [iZ]
  have:k=1∨k=2∨k=3:=by omega
  rcases this with rfl|rfl|rfl<;>decide +kernel
 | succ i ih=>rw [←mK,zH,ih];simp;omega
theorem pigC3_len (k i:Nat):(cJ k i).length≤(k+1) * (k+1)+2 * i:=by
 induction i with
 | zero=>rw [mM];have:=rK k (k+1);omega
 | succ i ih=>rw [←mH,zH];simp;omega
theorem fQ {k:Nat} (h1:1≤k) (h3:k≤3):validF (fG k)=0∧validF (eJ k)=0∧(∀c∈(fG k).clauses,c.length≤200000)∧0<(fG k).clauses.length:=by
 have:k=1∨k=2∨k=3:=by omega
 rcases this with rfl|rfl|rfl<;>exact ⟨by decide +kernel,by decide +kernel,by decide +kernel,by decide +kernel⟩
theorem pigG_lens {k:Nat} (h1:1≤k) (h3:k≤3):∀c∈(eJ k).clauses,c.length≤200000:=fun c hc=>(fQ h1 h3).2.2.1 c (jE hc)
theorem wK {A:List Diff} {bs:List Bool} {xs:List Int} (hf:aF A bs xs) (n:Nat) (d:Diff) (hd:A[n]? = some d) (h:holds bs ((n:Int)+1)=true):gi xs d.x-gi xs d.y≤d.c:=by
 have h1:=hf n d hd
 rw [dM,List.getD_eq_getElem?_getD,h1] at h
 simpa using h
theorem gI {bs:List Bool} {a:Int} (h:[a].any (holds bs)=true):holds bs a=true:=by simpa using h
theorem dP {bs:List Bool} {a b:Int} (h:[a,b].any (holds bs)=true):holds bs a=true∨holds bs b=true:=by simpa using h
theorem pig_no1 {bs:List Bool} {xs:List Int} (hf:aF (fG 1).atoms bs xs) (hc:∀c∈(fG 1).clauses,c.any (holds bs)=true):False:=by
 have h0:(gi xs 0-gi xs 1 ≤ -1)∨(gi xs 1-gi xs 0 ≤ -1):=(dP (hc [1,2] (by decide +kernel))).imp (wK hf 0 ⟨0,1, -1⟩ (by kernel_rfl)) (wK hf 1 ⟨1,0, -1⟩ (by kernel_rfl))
 have h1:gi xs 0-gi xs 2≤0:=wK hf 2 ⟨0,2,0⟩ (by kernel_rfl) (gI (hc [3] (by decide +kernel)))
 have h2:gi xs 2-gi xs 0≤0:=wK hf 3 ⟨2,0,0⟩ (by kernel_rfl) (gI (hc [4] (by decide +kernel)))
 have h3:gi xs 1-gi xs 2≤0:=wK hf 4 ⟨1,2,0⟩ (by kernel_rfl) (gI (hc [5] (by decide +kernel)))
 have h4:gi xs 2-gi xs 1≤0:=wK hf 5 ⟨2,1,0⟩ (by kernel_rfl) (gI (hc [6] (by decide +kernel)))
 clear hf hc
 omega
theorem pig_sat1:∃bs xs,aF (eJ 1).atoms bs xs∧∀c∈(eJ 1).clauses,c.any (holds bs)=true :=
 ⟨(eJ 1).atoms.map fun d=>decide (gi [0,0,0] d.x-gi [0,0,0] d.y≤d.c),[0,0,0],eO (by decide +kernel),by decide +kernel⟩
theorem pig_no2 {bs:List Bool} {xs:List Int} (hf:aF (fG 2).atoms bs xs) (hc:∀c∈(fG 2).clauses,c.any (holds bs)=true):False:=by
 have h0:(gi xs 0-gi xs 1 ≤ -1)∨(gi xs 1-gi xs 0 ≤ -1):=(dP (hc [1,3] (by decide +kernel))).imp (wK hf 0 ⟨0,1, -1⟩ (by kernel_rfl)) (wK hf 2 ⟨1,0, -1⟩ (by kernel_rfl))
 have h1:(gi xs 0-gi xs 2 ≤ -1)∨(gi xs 2-gi xs 0 ≤ -1):=(dP (hc [2,5] (by decide +kernel))).imp (wK hf 1 ⟨0,2, -1⟩ (by kernel_rfl)) (wK hf 4 ⟨2,0, -1⟩ (by kernel_rfl))
 have h2:(gi xs 1-gi xs 2 ≤ -1)∨(gi xs 2-gi xs 1 ≤ -1):=(dP (hc [4,6] (by decide +kernel))).imp (wK hf 3 ⟨1,2, -1⟩ (by kernel_rfl)) (wK hf 5 ⟨2,1, -1⟩ (by kernel_rfl))
 have h3:gi xs 0-gi xs 3≤1:=wK hf 6 ⟨0,3,1⟩ (by kernel_rfl) (gI (hc [7] (by decide +kernel)))
 have h4:gi xs 3-gi xs 0≤0:=wK hf 7 ⟨3,0,0⟩ (by kernel_rfl) (gI (hc [8] (by decide +kernel)))
 have h5:gi xs 1-gi xs 3≤1:=wK hf 8 ⟨1,3,1⟩ (by kernel_rfl) (gI (hc [9] (by decide +kernel)))
 have h6:gi xs 3-gi xs 1≤0:=wK hf 9 ⟨3,1,0⟩ (by kernel_rfl) (gI (hc [10] (by decide +kernel)))
 have h7:gi xs 2-gi xs 3≤1:=wK hf 10 ⟨2,3,1⟩ (by kernel_rfl) (gI (hc [11] (by decide +kernel)))
 have h8:gi xs 3-gi xs 2≤0:=wK hf 11 ⟨3,2,0⟩ (by kernel_rfl) (gI (hc [12] (by decide +kernel)))
 clear hf hc
 omega
theorem pig_sat2:∃bs xs,aF (eJ 2).atoms bs xs∧∀c∈(eJ 2).clauses,c.any (holds bs)=true :=
 ⟨(eJ 2).atoms.map fun d=>decide (gi [0,0,1,0] d.x-gi [0,0,1,0] d.y≤d.c),[0,0,1,0],eO (by decide +kernel),by decide +kernel⟩
theorem pig_no3 {bs:List Bool} {xs:List Int} (hf:aF (fG 3).atoms bs xs) (hc:∀c∈(fG 3).clauses,c.any (holds bs)=true):False:=by
 have h0:(gi xs 0-gi xs 1 ≤ -1)∨(gi xs 1-gi xs 0 ≤ -1):=(dP (hc [1,4] (by decide +kernel))).imp (wK hf 0 ⟨0,1, -1⟩ (by kernel_rfl)) (wK hf 3 ⟨1,0, -1⟩ (by kernel_rfl))
 have h1:(gi xs 0-gi xs 2 ≤ -1)∨(gi xs 2-gi xs 0 ≤ -1):=(dP (hc [2,7] (by decide +kernel))).imp (wK hf 1 ⟨0,2, -1⟩ (by kernel_rfl)) (wK hf 6 ⟨2,0, -1⟩ (by kernel_rfl))
 have h2:(gi xs 0-gi xs 3 ≤ -1)∨(gi xs 3-gi xs 0 ≤ -1):=(dP (hc [3,10] (by decide +kernel))).imp (wK hf 2 ⟨0,3, -1⟩ (by kernel_rfl)) (wK hf 9 ⟨3,0, -1⟩ (by kernel_rfl))
 have h3:(gi xs 1-gi xs 2 ≤ -1)∨(gi xs 2-gi xs 1 ≤ -1):=(dP (hc [5,8] (by decide +kernel))).imp (wK hf 4 ⟨1,2, -1⟩ (by kernel_rfl)) (wK hf 7 ⟨2,1, -1⟩ (by kernel_rfl))
 have h4:(gi xs 1-gi xs 3 ≤ -1)∨(gi xs 3-gi xs 1 ≤ -1):=(dP (hc [6,11] (by decide +kernel))).imp (wK hf 5 ⟨1,3, -1⟩ (by kernel_rfl)) (wK hf 10 ⟨3,1, -1⟩ (by kernel_rfl))
 have h5:(gi xs 2-gi xs 3 ≤ -1)∨(gi xs 3-gi xs 2 ≤ -1):=(dP (hc [9,12] (by decide +kernel))).imp (wK hf 8 ⟨2,3, -1⟩ (by kernel_rfl)) (wK hf 11 ⟨3,2, -1⟩ (by kernel_rfl))
 have h6:gi xs 0-gi xs 4≤2:=wK hf 12 ⟨0,4,2⟩ (by kernel_rfl) (gI (hc [13] (by decide +kernel)))
 have h7:gi xs 4-gi xs 0≤0:=wK hf 13 ⟨4,0,0⟩ (by kernel_rfl) (gI (hc [14] (by decide +kernel)))
 have h8:gi xs 1-gi xs 4≤2:=wK hf 14 ⟨1,4,2⟩ (by kernel_rfl) (gI (hc [15] (by decide +kernel)))
 have h9:gi xs 4-gi xs 1≤0:=wK hf 15 ⟨4,1,0⟩ (by kernel_rfl) (gI (hc [16] (by decide +kernel)))
 have h10:gi xs 2-gi xs 4≤2:=wK hf 16 ⟨2,4,2⟩ (by kernel_rfl) (gI (hc [17] (by decide +kernel)))
 have h11:gi xs 4-gi xs 2≤0:=wK hf 17 ⟨4,2,0⟩ (by kernel_rfl) (gI (hc [18] (by decide +kernel)))
 have h12:gi xs 3-gi xs 4≤2:=wK hf 18 ⟨3,4,2⟩ (by kernel_rfl) (gI (hc [19] (by decide +kernel)))
 have h13:gi xs 4-gi xs 3≤0:=wK hf 19 ⟨4,3,0⟩ (by kernel_rfl) (gI (hc [20] (by decide +kernel)))
 clear hf hc
 omega
theorem pig_sat3:∃bs xs,aF (eJ 3).atoms bs xs∧∀c∈(eJ 3).clauses,c.any (holds bs)=true :=
 ⟨(eJ 3).atoms.map fun d=>decide (gi [0,0,1,2,0] d.x-gi [0,0,1,2,0] d.y≤d.c),[0,0,1,2,0],eO (by decide +kernel),by decide +kernel⟩
theorem pig_ref {k:Nat} (h1:1≤k) (h3:k≤3) {o:List Int ⊕ List Stp} {w:World} {m0 m1 lv:Value} (h:SlvVal w (fG k) o m0 m1 lv):o.isLeft=false:=by
 cases o with
 | inr l=>rfl
 | inl val =>
  obtain ⟨-,xs, -, -,h4, -⟩:=h
  obtain ⟨h5,h6⟩:=rN h4 (fQ h1 h3).1
  have:k=1∨k=2∨k=3:=by omega
  rcases this with rfl|rfl|rfl
  ·exact (pig_no1 h5 h6).elim
  ·exact (pig_no2 h5 h6).elim
  ·exact (pig_no3 h5 h6).elim
theorem pigG_mod {k B:Nat} (h1:1≤k) (h3:k≤3) {o:List Int ⊕ List Stp} (hg:SlvGood (eJ k) B o):o.isLeft=true:=by
 have:k=1∨k=2∨k=3:=by omega
 rcases this with rfl|rfl|rfl
 ·obtain ⟨bs,xs,h5,h6⟩:=pig_sat1;obtain ⟨val,rfl, -⟩:=hg.sat h5 h6;rfl
 ·obtain ⟨bs,xs,h5,h6⟩:=pig_sat2;obtain ⟨val,rfl, -⟩:=hg.sat h5 h6;rfl
 ·obtain ⟨bs,xs,h5,h6⟩:=pig_sat3;obtain ⟨val,rfl, -⟩:=hg.sat h5 h6;rfl
end Go.Proofs.Yticieifacalocaa
