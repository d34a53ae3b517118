/- Right CutM Ring -/
import Derived.Test.YticieifacalocaaTSG50
import Derived.Test.YticieifacalocaaTSG48
namespace Go.Proofs.Yticieifacalocaa
open Go.RowKit
set_option maxRecDepth 100000 in
set_option maxHeartbeats 4000000 in
theorem right_sat {f:Form} {fv bv iv:Value} {bs:List Bool} {xs:List Int} {w:World} (hf:IsForm w fv f) (hB:Bools w bv bs) (hX:Ints w iv xs) (hv:validF f=0) (h40:∀x∈xs,Forty x) (hs:Sat f xs bs) :
  Calls Try.prog 18 #[fv, .agg #[bv,iv], .slice none 0 0, .bool true] w fun e w'=>e = .returned (.bool true)∧Below w.heap.size w w':=by
 have HF:=Lib.hid hf
 have HBS:=Lib.hid hB
 have HXS:=Lib.hid hX
 have HV:=Lib.hid hv
 have H40:=Lib.hid h40
 have HS:=Lib.hid hs
 obtain ⟨av,cv,rfl, -, -, -, -⟩:=hf
 clear hB hX hv h40 hs
 have b1:=Blk.new w 29 #[.int .i64 f.ints, .int .i64 f.bools,av,cv]
 have b2:=Blk.new (w.alloc (.cells #[.int .i64 f.ints, .int .i64 f.bools,av,cv] 29)) 35 #[bv,iv]
 simp only [xL] at b2
 have HB1:=Lib.hid (b1.alloc (.cells #[bv,iv] 35))
 have HB2:=Lib.hid b2
 have HB:Hid (Below w.heap.size w ((w.alloc (.cells #[.int .i64 f.ints, .int .i64 f.bools,av,cv] 29)).alloc (.cells #[bv,iv] 35))):=Lib.hid (((zN _ _).alloc (Nat.le_refl _) _).alloc (by simp) _)
 clear b1 b2
 go_enter Try.func18,Try.ntmps18
 go_upto_region 1 with fail
 generalize ((w.alloc (.cells #[.int .i64 f.ints, .int .i64 f.bools,av,cv] 29)).alloc (.cells #[bv,iv] 35))=W at *
 have q0:=HB1.out.cell 0
 have q1:=HB1.out.cell 1
 have q2:=HB1.out.cell 2
 have q3:=HB1.out.cell 3
 have p0:=HB2.out.cell 0
 have p1:=HB2.out.cell 1
 simp only [zA,zB,zC] at q0 q1 q2 q3 p0 p1
 go_wp2_with fail
 refine (rsat_any _ _ _ _ _ _ f (HF.out.keep HB.out) (HBS.out.keep HB.out) (HXS.out.keep HB.out) HV.out H40.out).mono ?_
 rintro e w2 ⟨⟨b,rfl,hb⟩,hbw⟩
 obtain rfl:=hb.2 HS.out
 have HB3:=Lib.hid (HB.out.trans (hbw.mono HB.out.size))
 clear hb hbw q0 q1 q2 q3 p0 p1
 go_wp2_with fail
 go_ret
 exact ⟨rfl,HB3.out⟩
set_option maxRecDepth 100000 in
set_option maxHeartbeats 4000000 in
theorem right_ref {f:Form} {fv lv:Value} {l:List Stp} {w:World} (hf:IsForm w fv f) (hl:Stps w lv l) (hq:oG f l) (hc:chk (wZ f [] l) l.length=(0,0)) :
  Calls Try.prog 18 #[fv, .agg #[.slice none 0 0, .slice none 0 0],lv, .bool false] w fun e w'=>e = .returned (.bool true)∧Below w.heap.size w w':=by
 have HF:=Lib.hid hf
 have HL:=Lib.hid hl
 have HQ:=Lib.hid hq
 have HC:=Lib.hid hc
 obtain ⟨av,cv,rfl, -, -, -, -⟩:=hf
 clear hl hq hc
 have b1:=Blk.new w 29 #[.int .i64 f.ints, .int .i64 f.bools,av,cv]
 have b2:=Blk.new (w.alloc (.cells #[.int .i64 f.ints, .int .i64 f.bools,av,cv] 29)) 35 #[.slice none 0 0, .slice none 0 0]
 simp only [xL] at b2
 have HB1:=Lib.hid (b1.alloc (.cells #[.slice none 0 0, .slice none 0 0] 35))
 have HB2:=Lib.hid b2
 have HB:Hid (Below w.heap.size w ((w.alloc (.cells #[.int .i64 f.ints, .int .i64 f.bools,av,cv] 29)).alloc (.cells #[.slice none 0 0, .slice none 0 0] 35))):=Lib.hid (((zN _ _).alloc (Nat.le_refl _) _).alloc (by simp) _)
 clear b1 b2
 go_enter Try.func18,Try.ntmps18
 go_upto_region 1 with fail
 generalize ((w.alloc (.cells #[.int .i64 f.ints, .int .i64 f.bools,av,cv] 29)).alloc (.cells #[.slice none 0 0, .slice none 0 0] 35))=W at *
 have q0:=HB1.out.cell 0
 have q1:=HB1.out.cell 1
 have q2:=HB1.out.cell 2
 have q3:=HB1.out.cell 3
 simp only [zA,zB,zC] at q0 q1 q2 q3
 go_wp2_with fail
 refine (rJ _ _ f l _ (HF.out.keep HB.out) (HL.out.keep HB.out) HQ.out).mono ?_
 rintro e w2 ⟨rfl,hbw⟩
 rw [HC.out]
 have HB3:=Lib.hid (HB.out.trans (hbw.mono HB.out.size))
 have hbk:=HB2.out.keep hbw
 have p0:=hbk.cell 0
 have p1:=hbk.cell 1
 simp only [zA,zB,zC] at p0 p1
 clear hbw q0 q1 q2 q3 hbk
 go_wp2_with fail
 go_ret
 exact ⟨rfl,HB3.out⟩
def SlvVal (w:World) (f:Form):List Int ⊕ List Stp→Value→Value→Value→Prop
 | .inl val,m0,m1,lv=>lv = .slice none 0 0∧∃xs,Bools w m0 (val.map fun y=>decide (0<y))∧Ints w m1 xs∧Sat f xs (val.map fun y=>decide (0<y))∧∀x∈xs,Forty x
 | .inr l,m0,m1,lv=>m0 = .slice none 0 0∧m1 = .slice none 0 0∧Stps w lv l∧oG f l∧chk (wZ f [] l) l.length=(0,0)
theorem SlvVal.keep {w w':World} {f:Form} {o:List Int ⊕ List Stp} {m0 m1 lv:Value} (h:SlvVal w f o m0 m1 lv) (hb:Below w.heap.size w w'):SlvVal w' f o m0 m1 lv:=by
 cases o with
 | inl val=>obtain ⟨h1,xs,h2,h3,h4⟩:=h;exact ⟨h1,xs,h2.keep hb,h3.keep hb,h4⟩
 | inr l=>obtain ⟨h1,h2,h3,h4⟩:=h;exact ⟨h1,h2,h3.keep hb,h4⟩
theorem SlvVal.shape {w:World} {f:Form} {o:List Int ⊕ List Stp} {m0 m1 lv:Value} (h:SlvVal w f o m0 m1 lv):∃A n c A' n' c',m0 = .slice A n c∧m1 = .slice A' n' c':=by
 cases o with
 | inl val=>obtain ⟨h1,xs,⟨A,c,h2, -⟩,⟨A',c',h3, -⟩,h4⟩:=h;exact ⟨_,_,_,_,_,_,h2,h3⟩
 | inr l=>obtain ⟨h1,h2,h3,h4⟩:=h;exact ⟨_,_,_,_,_,_,h1,h2⟩
theorem aT {f:Form} {o:List Int ⊕ List Stp} {fv m0 m1 lv:Value} {w:World} (hf:IsForm w fv f) (hv:validF f=0) (h:SlvVal w f o m0 m1 lv) :
  Calls Try.prog 18 #[fv, .agg #[m0,m1],lv, .bool o.isLeft] w fun e w'=>e = .returned (.bool true)∧Below w.heap.size w w':=by
 cases o with
 | inl val=>obtain ⟨rfl,xs,h2,h3,h4,h5⟩:=h;exact right_sat hf h2 h3 hv h5 h4
 | inr l=>obtain ⟨rfl,rfl,h3,h4,h5⟩:=h;exact right_ref hf h3 h4 h5
theorem bools_lit {w:World} {g:Nat} {xs:List Bool} (hb:Blk w g 4 (xs.map Value.bool).toArray) (hl:xs.length≤maxLen):Bools w (.slice (some ⟨g,0,none⟩) xs.length xs.length) xs:=by
 refine ⟨_,_,rfl,Nat.le_refl _,hl,fun _=>⟨g,0,rfl,hb.lt,fun j u hu => ?_⟩⟩
 rw [hb.cell,qY]
 simpa using hu
theorem bT {f:Form} {B:Nat} (hv:validF f=0) (hb:f.bools=(B:Int)) (hB:B≤24) (hcl:∀c∈f.clauses,c.length≤200000):∀w fv,IsForm w fv f →
  ∃o,SlvGood f B o∧Calls Try.prog 17 #[fv] w fun e w'=>∃m0 m1 lv,e = .returned (.tuple #[.agg #[m0,m1],lv, .bool o.isLeft])∧SlvVal w' f o m0 m1 lv∧Below w.heap.size w w':=by
 intro w fv hf
 obtain ⟨N,hN⟩:∃N:Nat,f.ints=N:=⟨f.ints.toNat,by have:=(gT hv).2.1;omega⟩
 have hq:=oL hv hb hN
 obtain ⟨o,hg,hc⟩:=aG hf hq hB hv (fun c h=>by have:=hcl c h;omega)
 refine ⟨o,hg,hc.mono fun e w' h => ?_⟩
 cases o with
 | inl val =>
  obtain ⟨bb,gx,xs,rfl,h1,h2,h3,h4,h5,h6,h7,h8⟩:=h
  have hm:ModelOk f B val:=hg
  have hfit:=hm.fits hq h6
  have hbl:(val.map fun y=>decide (0<y)).length=B:=by rw [List.length_map,hm.len]
  have hN3:N≤32:=by have:=(gT hv).1;omega
  have i1:=bM (xs:=xs) h2 (zN _ _) (fun x hx=>by have:=h7 x hx;constructor<;>omega) (by unfold maxLen;omega)
  have i2:=bools_lit (xs:=val.map fun y=>decide (0<y)) h1 (by rw [hbl];unfold maxLen;omega)
  rw [h5] at i1
  rw [hbl] at i2
  refine ⟨_,_,_,rfl,⟨rfl,xs,i2,i1,⟨by rw [hbl,hb],by rw [h5,hN],fun j d hd => ?_,hm.clauses⟩,fun x hx=>by have:=h7 x hx;constructor<;>omega⟩,h8⟩
  have hj:=hfit j d hd
  unfold atomOk
  rw [List.getD_eq_getElem?_getD,hj]
  unfold gi
  simp
 | inr l =>
  obtain ⟨v,rfl,h1,h2⟩:=h
  have hr:RefOk f l:=hg
  have hL:LIM=1099511627776:=rfl
  refine ⟨_,_,_,rfl,⟨rfl,rfl,h1,⟨hv,hcl,by have:=hr.len;omega,fun s hs=>by have:=(hr.st s hs).2.2.2.2.1;omega⟩,?_⟩,h2⟩
  obtain ⟨cs,r1,r2,r3⟩:=hr.r
  unfold chk
  rw [r1,if_pos rfl,if_neg]
  rintro (h|h)
  ·omega
  ·exact h r3
theorem cut_fromM (A:Option Addr) (n c k:Nat) (hk:k≤n) (hn:n≤c) :
  ∃dp,(∀w,(Instr.slice 27 (.slice A n c) (some (.int .i64 (k:Int))) none none).run Try.prog w = .ok (.slice dp (n-k) (c-k)) w)∧(k<n→dp=A.map fun a=>a.add k):=by
 refine ⟨if c=k then A else A.map (fun a=>a.add k),fun w => ?_,fun h=>by rw [if_neg (by omega)]⟩
 rw [run_slice_l (P:=Try.prog) (w:=w) 27 _ n c (by kernel_rfl) .i64 (k:Int) (by omega) (by omega),show (sizeOf (Try.prog.elem 27)).run Try.prog w = .ok 1 w by kernel_rfl]
 simp only [Result.andThen,sliced,Int.toNat_natCast,qW]
def Form.withC (f:Form) (cs:List (List Int)):Form:=⟨f.ints,f.bools,f.atoms,cs⟩
theorem rA {f:Form} (h:validF f=0) {cs:List (List Int)} (hl:cs.length≤32768) (hc:∀c∈cs,∀x∈c,aA f.bools x=true):validF (f.withC cs)=0:=by
 obtain ⟨h1,h2,h3,h4,h5,h6,h7,h8⟩:=gT h
 have e1:(f.withC cs).ints=f.ints:=rfl
 have e2:(f.withC cs).bools=f.bools:=rfl
 have e3:(f.withC cs).atoms=f.atoms:=rfl
 have e4:(f.withC cs).clauses=cs:=rfl
 rw [iF (by omega) (by omega) (by rw [e4];omega) (by omega) (by omega) (by rw [e2,e3];omega),mL]
 ·rfl
 ·rw [qI];exact h7
 ·rw [qI];intro xs hx;rw [qI];exact hc xs hx
theorem rN {f:Form} {xs:List Int} {bs:List Bool} (h:Sat f xs bs) (hv:validF f=0):aF f.atoms bs xs∧∀c∈f.clauses,c.any (holds bs)=true:=by
 obtain ⟨h1,h2,h3,h4⟩:=h
 refine ⟨fun i d hd => ?_,h4⟩
 have hi:=(zG.1 hd).1
 have hb:=(gT hv)
 have hib:i<bs.length:=by omega
 have:=h3 i d hd
 unfold atomOk at this
 rw [List.getD_eq_getElem?_getD,List.getElem?_eq_getElem hib] at this
 rw [List.getElem?_eq_getElem hib]
 unfold gi
 simpa using this
def bP (k n:Nat):List Diff:=(List.range n).map fun (i:Nat)=>⟨(i:Int),(((i+1) % k:Nat):Int), -1⟩
def aJ (n:Nat):List (List Int):=(List.range n).map fun (i:Nat)=>[(i:Int)+1]
def nX (k:Nat):Form:=⟨k,k,bP k k,aJ k⟩
def eA (k j:Nat):Form:=⟨k,k,bP k k,(aJ k).set j [-((j:Int)+1)]⟩
theorem sS (k n:Nat):bP k (n+1)=bP k n++[⟨(n:Int),(((n+1) % k:Nat):Int), -1⟩]:=by simp [bP,List.range_succ]
theorem ringC_succ (n:Nat):aJ (n+1)=aJ n++[[(n:Int)+1]]:=by simp [aJ,List.range_succ]
theorem fI (k n:Nat):(bP k n).length=n:=by simp [bP]
theorem ringC_len (n:Nat):(aJ n).length=n:=by simp [aJ]
theorem bI:∀{k:Nat},2≤k→k≤11→validF (nX k)=0:=by
 intro k h1 h2
 have:k=2∨k=3∨k=4∨k=5∨k=6∨k=7∨k=8∨k=9∨k=10∨k=11:=by omega
 rcases this with rfl|rfl|rfl|rfl|rfl|rfl|rfl|rfl|rfl|rfl<;>decide +kernel
theorem nP {k:Nat}:∀c∈(nX k).clauses,c.length≤200000:=fun c hc=>by
 obtain ⟨i, -,rfl⟩:=List.mem_map.1 hc
 simp
theorem ringG_lens {k j:Nat}:∀c∈(eA k j).clauses,c.length≤200000:=fun c hc=>by
 rcases xD hc with h|rfl
 ·exact nP (k:=k) c h
 ·simp
theorem iH:∀{k j:Nat},2≤k→k≤11→j<k→validF (eA k j)=0:=by
 intro k j h1 h2 hj
 obtain ⟨a1,a2,a3,a4,a5,a6,a7,a8⟩:=gT (bI h1 h2)
 have e:eA k j=(nX k).withC ((aJ k).set j [-((j:Int)+1)]):=rfl
 rw [e]
 refine rA (bI h1 h2) (by rw [qA,ringC_len];omega) fun c hc => ?_
 rcases xD hc with h|rfl
 ·exact a8 c h
 ·intro x hx
  rw [zI.1 hx]
  have:(nX k).bools=(k:Int):=rfl
  rw [this]
  exact dZ.2 ⟨by omega,by omega,by omega⟩
theorem ring_no {k:Nat} (h2:2≤k) {bs:List Bool} {xs:List Int} (hf:aF (bP k k) bs xs) (hc:∀c∈aJ k,c.any (holds bs)=true):False:=by
 have step:∀i,i<k→gi xs (i:Int)-gi xs (((i+1) % k:Nat):Int) ≤ -1:=by
  intro i hi
  have h1:=hf i ⟨(i:Int),(((i+1) % k:Nat):Int), -1⟩ (by simp [bP,hi])
  have h3:=hc [(i:Int)+1] (List.mem_map.2 ⟨i,uB.2 hi,rfl⟩)
  simp only [List.any_cons,List.any_nil,Bool.or_false] at h3
  rw [dM,List.getD_eq_getElem?_getD,h1] at h3
  simpa using h3
 have up:∀i,i<k→gi xs 0≤gi xs (i:Int)-i:=by
  intro i
  induction i with
  | zero=>intro _;simp
  | succ i ih =>
   intro hi
   have h1:=ih (by omega)
   have h3:=step i (by omega)
   rw [vL hi] at h3
   omega
 have h1:=up (k-1) (by omega)
 have h3:=step (k-1) (by omega)
 rw [show k-1+1=k by omega,jS] at h3
 simp only [Int.natCast_zero] at h3
 omega
def fitsB (atoms:List Diff) (bs:List Bool) (xs:List Int):Bool:=(List.range atoms.length).all fun i=>decide (bs[i]? = some (decide (gi xs (atoms.getD i ⟨0,0,0⟩).x-gi xs (atoms.getD i ⟨0,0,0⟩).y≤(atoms.getD i ⟨0,0,0⟩).c)))
theorem eO {atoms:List Diff} {bs:List Bool} {xs:List Int} (h:fitsB atoms bs xs=true):aF atoms bs xs:=by
 intro i d hd
 have hi:=(zG.1 hd).1
 have:=qI.1 h i (uB.2 hi)
 rw [List.getD_eq_getElem?_getD,hd] at this
 simpa using this
def ringX (k j:Nat):List Int:=(List.range k).map fun (i:Nat)=>(((i+k-(j+1)) % k:Nat):Int)
def ringB (k j:Nat):List Bool:=(List.range k).map fun (i:Nat)=>decide (i≠j)
theorem ringG_sat:∀{k j:Nat},2≤k→k≤11→j<k→aF (eA k j).atoms (ringB k j) (ringX k j)∧∀c∈(eA k j).clauses,c.any (holds (ringB k j))=true:=by
 intro k j h1 h2 hj
 have key:∀k,k<12→2≤k→∀j,j<k→(fitsB (eA k j).atoms (ringB k j) (ringX k j) && (eA k j).clauses.all fun c=>c.any (holds (ringB k j)))=true:=by decide +kernel
 have:=key k (by omega) h1 j hj
 rw [yX] at this
 exact ⟨eO this.1,fun c hc=>qI.1 this.2 c hc⟩
theorem SlvVal.aside {w w':World} {f:Form} {o:List Int ⊕ List Stp} {m0 m1 lv:Value} {mk:Nat} {t:TypeId} {A1 A2:Option Addr} {n1 c1 n2 c2:Nat} (h:SlvVal w f o m0 m1 lv) (ho:o.isLeft=true) (hk:Blk w mk t #[.slice A1 n1 c1, .slice A2 n2 c2]) (hg:w.grownBy w' (some mk)):SlvVal w' f o m0 m1 lv:=by
 cases o with
 | inr l=>cases ho
 | inl val =>
  obtain ⟨h1,xs,⟨A,c,a1,a2,a3,a4⟩,⟨B,d,b1,b2,b3,b4,b5⟩,h4⟩:=h
  exact ⟨h1,xs,⟨A,c,a1,a2,a3,pJ a4 hk (fun u hu _ _ _ e=>by obtain ⟨x, -,rfl⟩:=List.mem_map.1 hu;cases e) hg⟩,⟨B,d,b1,b2,b3,b4,pJ b5 hk (fun u hu _ _ _ e=>by obtain ⟨x, -,rfl⟩:=List.mem_map.1 hu;cases e) hg⟩,h4⟩
theorem ring_ref {k:Nat} (h1:2≤k) (h2:k≤11) {o:List Int ⊕ List Stp} {w:World} {m0 m1 lv:Value} (h:SlvVal w (nX k) o m0 m1 lv):o.isLeft=false:=by
 cases o with
 | inr l=>rfl
 | inl val =>
  obtain ⟨-,xs, -, -,h4, -⟩:=h
  obtain ⟨h5,h6⟩:=rN h4 (bI h1 h2)
  exact (ring_no h1 h5 h6).elim
theorem ringG_mod {k j B:Nat} (h1:2≤k) (h2:k≤11) (hj:j<k) {o:List Int ⊕ List Stp} (hg:SlvGood (eA k j) B o):o.isLeft=true:=by
 obtain ⟨h3,h4⟩:=ringG_sat h1 h2 hj
 obtain ⟨val,rfl, -⟩:=hg.sat h3 h4
 rfl
end Go.Proofs.Yticieifacalocaa
