/- Aw34 Open OpenP LawSLa -/
import Derived.Test.YticieifacalocaaTSE49
import Derived.ProofKit
import Derived.OpenShut
import Derived.Deep.Slices
import Derived.Deep.Fields
import Derived.Lib.SmallJoins
import Derived.SizedLaws
import Derived.WideKeyArgs
import Derived.Laws.IdiomArrays
namespace Go.Proofs.Yticieifacalocaa
open Go.RowKit
def awP:Form:=⟨0,3,[],[[-1,2],[-2,3]]⟩
def awF:Form:=⟨2,2,[⟨0,1, -1⟩,⟨1,0, -1⟩],[[1],[2]]⟩
def awG:Form:=⟨2,2,[⟨0,1, -1⟩,⟨1,0, -1⟩],[[1]]⟩
theorem awP_valid:validF awP=0:=by decide
theorem oS:validF awF=0:=by decide
theorem oO:validF awG=0:=by decide
theorem awP_out:outP 3 5 awP.clauses [1]=some (some [1,2,3]):=by decide
theorem awF_bad {val:List Int}:¬ModelOk awF 2 val:=by
 intro h
 obtain ⟨x1,m1,l1,t1⟩:=h.cl [1] (by simp [awF])
 obtain ⟨x2,m2,l2,t2⟩:=h.cl [2] (by simp [awF])
 simp at m1 m2
 subst m1 m2
 have e1:val.getD 0 0=1:=t1
 have e2:val.getD 1 0=1:=t2
 obtain ⟨X,hX⟩:=h.sol
 have a1:=hX 0 (by omega) ⟨0,1, -1⟩ (by rw [e1];rfl)
 have a2:=hX 1 (by omega) ⟨1,0, -1⟩ (by rw [e2];rfl)
 simp only at a1 a2
 omega
theorem awF_ref {o:List Int ⊕ List Stp} (h:SlvGood awF 2 o):∃l,o = .inr l:=by
 cases o with
 | inl val=>exact absurd h awF_bad
 | inr l=>exact ⟨l,rfl⟩
theorem awG_mod {o:List Int ⊕ List Stp} (h:SlvGood awG 2 o):∃val,o = .inl val∧ModelOk awG 2 val :=
 h.sat (bs:=[true,false]) (xs:=[0,1]) (fun i d hd=>by
  match i with
  | 0=>simp [awG] at hd;subst hd;rfl
  | 1=>simp [awG] at hd;subst hd;rfl
  | i+2=>simp [awG] at hd) (fun c hc=>by simp [awG] at hc;subst hc;rfl)
theorem awP_lay (w:World):IsForm ((((w.alloc (.cells #[.int .i64 (-1), .int .i64 2] 3)).alloc (.cells #[.int .i64 (-2), .int .i64 3] 3)).alloc (.cells #[.slice (some ⟨w.heap.size,0,none⟩) 2 2, .slice (some ⟨w.heap.size+1,0,none⟩) 2 2] 33)).alloc (.cells #[.int .i64 1] 3)) (.agg #[.int .i64 0, .int .i64 3, .slice none 0 0, .slice (some ⟨w.heap.size+1+1,0,none⟩) 2 2]) awP∧Ints ((((w.alloc (.cells #[.int .i64 (-1), .int .i64 2] 3)).alloc (.cells #[.int .i64 (-2), .int .i64 3] 3)).alloc (.cells #[.slice (some ⟨w.heap.size,0,none⟩) 2 2, .slice (some ⟨w.heap.size+1,0,none⟩) 2 2] 33)).alloc (.cells #[.int .i64 1] 3)) (.slice (some ⟨w.heap.size+1+1+1,0,none⟩) 1 1) [1]∧Below w.heap.size w ((((w.alloc (.cells #[.int .i64 (-1), .int .i64 2] 3)).alloc (.cells #[.int .i64 (-2), .int .i64 3] 3)).alloc (.cells #[.slice (some ⟨w.heap.size,0,none⟩) 2 2, .slice (some ⟨w.heap.size+1,0,none⟩) 2 2] 33)).alloc (.cells #[.int .i64 1] 3)):=by
 have b1:=Blk.new w 3 #[.int .i64 (-1), .int .i64 2]
 have b2:=Blk.new (w.alloc (.cells #[.int .i64 (-1), .int .i64 2] 3)) 3 #[.int .i64 (-2), .int .i64 3]
 have b3:=Blk.new ((w.alloc (.cells #[.int .i64 (-1), .int .i64 2] 3)).alloc (.cells #[.int .i64 (-2), .int .i64 3] 3)) 33 #[.slice (some ⟨w.heap.size,0,none⟩) 2 2, .slice (some ⟨w.heap.size+1,0,none⟩) 2 2]
 have b4:=Blk.new (((w.alloc (.cells #[.int .i64 (-1), .int .i64 2] 3)).alloc (.cells #[.int .i64 (-2), .int .i64 3] 3)).alloc (.cells #[.slice (some ⟨w.heap.size,0,none⟩) 2 2, .slice (some ⟨w.heap.size+1,0,none⟩) 2 2] 33)) 3 #[.int .i64 1]
 simp only [xR] at b1 b2 b3 b4
 have B1:=((b1.alloc (.cells #[.int .i64 (-2), .int .i64 3] 3)).alloc (.cells #[.slice (some ⟨w.heap.size,0,none⟩) 2 2, .slice (some ⟨w.heap.size+1,0,none⟩) 2 2] 33)).alloc (.cells #[.int .i64 1] 3)
 have B2:=(b2.alloc (.cells #[.slice (some ⟨w.heap.size,0,none⟩) 2 2, .slice (some ⟨w.heap.size+1,0,none⟩) 2 2] 33)).alloc (.cells #[.int .i64 1] 3)
 have B3:=b3.alloc (.cells #[.int .i64 1] 3)
 refine ⟨⟨_,_,rfl,by simp [awP,I64],by simp [awP,I64],⟨none,0,rfl,by simp [awP],by simp [maxLen],by simp [awP],fun h=>by simp [awP] at h⟩,?_⟩,cL (xs:=[1]) b4 (zL _ _) (by simp [I64]) (by simp [maxLen]),(((((zL _ _).alloc (Nat.le_refl _) _).alloc (by simp) _).alloc (by simp;omega) _).alloc (by simp;omega) _)⟩
 refine mat_lit (xss:=[[-1,2],[-2,3]]) (vs:=[.slice (some ⟨w.heap.size,0,none⟩) 2 2, .slice (some ⟨w.heap.size+1,0,none⟩) 2 2]) B3 rfl (by simp [maxLen]) (fun k u xs h1 h2 => ?_)
 match k with
 | 0 =>
  simp at h1 h2
  subst h1 h2
  exact cL (xs:=[-1,2]) B1 (zL _ _) (by simp [I64]) (by simp [maxLen])
 | 1 =>
  simp at h1 h2
  subst h1 h2
  exact cL (xs:=[-2,3]) B2 (zL _ _) (by simp [I64]) (by simp [maxLen])
 | k+2=>simp at h1
theorem awF_lay (w:World):IsForm ((((w.alloc (.cells #[.int .i64 0, .int .i64 1, .int .i64 (-1), .int .i64 1, .int .i64 0, .int .i64 (-1)] 50)).alloc (.cells #[.int .i64 1] 3)).alloc (.cells #[.int .i64 2] 3)).alloc (.cells #[.slice (some ⟨w.heap.size+1,0,none⟩) 1 1, .slice (some ⟨w.heap.size+1+1,0,none⟩) 1 1] 33)) (.agg #[.int .i64 2, .int .i64 2, .slice (some ⟨w.heap.size,0,none⟩) 2 2, .slice (some ⟨w.heap.size+1+1+1,0,none⟩) 2 2]) awF∧IsForm ((((w.alloc (.cells #[.int .i64 0, .int .i64 1, .int .i64 (-1), .int .i64 1, .int .i64 0, .int .i64 (-1)] 50)).alloc (.cells #[.int .i64 1] 3)).alloc (.cells #[.int .i64 2] 3)).alloc (.cells #[.slice (some ⟨w.heap.size+1,0,none⟩) 1 1, .slice (some ⟨w.heap.size+1+1,0,none⟩) 1 1] 33)) (.agg #[.int .i64 2, .int .i64 2, .slice (some ⟨w.heap.size,0,none⟩) 2 2, .slice (some ⟨w.heap.size+1+1+1,0,none⟩) 1 2]) awG∧((((w.alloc (.cells #[.int .i64 0, .int .i64 1, .int .i64 (-1), .int .i64 1, .int .i64 0, .int .i64 (-1)] 50)).alloc (.cells #[.int .i64 1] 3)).alloc (.cells #[.int .i64 2] 3)).alloc (.cells #[.slice (some ⟨w.heap.size+1,0,none⟩) 1 1, .slice (some ⟨w.heap.size+1+1,0,none⟩) 1 1] 33)).heap.size=w.heap.size+1+1+1+1∧Below w.heap.size w ((((w.alloc (.cells #[.int .i64 0, .int .i64 1, .int .i64 (-1), .int .i64 1, .int .i64 0, .int .i64 (-1)] 50)).alloc (.cells #[.int .i64 1] 3)).alloc (.cells #[.int .i64 2] 3)).alloc (.cells #[.slice (some ⟨w.heap.size+1,0,none⟩) 1 1, .slice (some ⟨w.heap.size+1+1,0,none⟩) 1 1] 33)):=by
 have b1:=Blk.new w 50 #[.int .i64 0, .int .i64 1, .int .i64 (-1), .int .i64 1, .int .i64 0, .int .i64 (-1)]
 have b2:=Blk.new (w.alloc (.cells #[.int .i64 0, .int .i64 1, .int .i64 (-1), .int .i64 1, .int .i64 0, .int .i64 (-1)] 50)) 3 #[.int .i64 1]
 have b3:=Blk.new ((w.alloc (.cells #[.int .i64 0, .int .i64 1, .int .i64 (-1), .int .i64 1, .int .i64 0, .int .i64 (-1)] 50)).alloc (.cells #[.int .i64 1] 3)) 3 #[.int .i64 2]
 have b4:=Blk.new (((w.alloc (.cells #[.int .i64 0, .int .i64 1, .int .i64 (-1), .int .i64 1, .int .i64 0, .int .i64 (-1)] 50)).alloc (.cells #[.int .i64 1] 3)).alloc (.cells #[.int .i64 2] 3)) 33 #[.slice (some ⟨w.heap.size+1,0,none⟩) 1 1, .slice (some ⟨w.heap.size+1+1,0,none⟩) 1 1]
 simp only [xR] at b1 b2 b3 b4
 have B1:=(((b1.alloc (.cells #[.int .i64 1] 3)).alloc (.cells #[.int .i64 2] 3)).alloc (.cells #[.slice (some ⟨w.heap.size+1,0,none⟩) 1 1, .slice (some ⟨w.heap.size+1+1,0,none⟩) 1 1] 33))
 have B2:=((b2.alloc (.cells #[.int .i64 2] 3)).alloc (.cells #[.slice (some ⟨w.heap.size+1,0,none⟩) 1 1, .slice (some ⟨w.heap.size+1+1,0,none⟩) 1 1] 33))
 have B3:=(b3.alloc (.cells #[.slice (some ⟨w.heap.size+1,0,none⟩) 1 1, .slice (some ⟨w.heap.size+1+1,0,none⟩) 1 1] 33))
 have B4:=b4
 have hD:Diffs ((((w.alloc (.cells #[.int .i64 0, .int .i64 1, .int .i64 (-1), .int .i64 1, .int .i64 0, .int .i64 (-1)] 50)).alloc (.cells #[.int .i64 1] 3)).alloc (.cells #[.int .i64 2] 3)).alloc (.cells #[.slice (some ⟨w.heap.size+1,0,none⟩) 1 1, .slice (some ⟨w.heap.size+1+1,0,none⟩) 1 1] 33)) (.slice (some ⟨w.heap.size,0,none⟩) 2 2) [⟨0,1, -1⟩,⟨1,0, -1⟩]:=diffs_lit (ds:=[⟨0,1, -1⟩,⟨1,0, -1⟩]) B1 (by simp [Diff.ok,I64]) (by simp [maxLen])
 have hM:Mat ((((w.alloc (.cells #[.int .i64 0, .int .i64 1, .int .i64 (-1), .int .i64 1, .int .i64 0, .int .i64 (-1)] 50)).alloc (.cells #[.int .i64 1] 3)).alloc (.cells #[.int .i64 2] 3)).alloc (.cells #[.slice (some ⟨w.heap.size+1,0,none⟩) 1 1, .slice (some ⟨w.heap.size+1+1,0,none⟩) 1 1] 33)) (.slice (some ⟨w.heap.size+1+1+1,0,none⟩) 2 2) [[1],[2]]:=by
  refine mat_lit (xss:=[[1],[2]]) (vs:=[.slice (some ⟨w.heap.size+1,0,none⟩) 1 1, .slice (some ⟨w.heap.size+1+1,0,none⟩) 1 1]) B4 rfl (by simp [maxLen]) (fun k u xs h1 h2 => ?_)
  match k with
  | 0 =>
   simp at h1 h2
   subst h1 h2
   exact cL (xs:=[1]) B2 (zL _ _) (by simp [I64]) (by simp [maxLen])
  | 1 =>
   simp at h1 h2
   subst h1 h2
   exact cL (xs:=[2]) B3 (zL _ _) (by simp [I64]) (by simp [maxLen])
  | k+2=>simp at h1
 have hG:Mat ((((w.alloc (.cells #[.int .i64 0, .int .i64 1, .int .i64 (-1), .int .i64 1, .int .i64 0, .int .i64 (-1)] 50)).alloc (.cells #[.int .i64 1] 3)).alloc (.cells #[.int .i64 2] 3)).alloc (.cells #[.slice (some ⟨w.heap.size+1,0,none⟩) 1 1, .slice (some ⟨w.heap.size+1+1,0,none⟩) 1 1] 33)) (.slice (some ⟨w.heap.size+1+1+1,0,none⟩) 1 2) [[1]]:=by
  obtain ⟨A,c,vs,hv,h1,h2,h3,h4,h5⟩:=hM
  injection hv with e1 e2 e3
  subst e1 e3
  match vs,h3 with
  | [u1,u2],_ =>
   refine ⟨_,_,[u1],rfl,by simp,h2,rfl,fun h0 => ?_,fun k u xs g1 g2 => ?_⟩
   ·obtain ⟨b,off,hA,hb,hc⟩:=h4 (by simp)
    refine ⟨b,off,hA,hb,fun j u hu => ?_⟩
    match j with
    | 0=>exact hc 0 u (by simpa using hu)
    | j+1=>simp at hu
   ·match k with
    | 0=>exact h5 0 u xs (by simpa using g1) (by simpa using g2)
    | k+1=>simp at g1
 refine ⟨⟨_,_,rfl,by simp [awF,I64],by simp [awF,I64],hD,hM⟩,⟨_,_,rfl,by simp [awG,I64],by simp [awG,I64],hD,hG⟩,by simp,(((((zL _ _).alloc (Nat.le_refl _) _).alloc (by simp) _).alloc (by simp;omega) _).alloc (by simp;omega) _)⟩
set_option maxRecDepth 100000 in
set_option maxHeartbeats 2000000 in
theorem awake34 (w:World):Calls Try.prog 20 #[] w fun e w'=>e = .returned (.bool true)∧Below w.heap.size w w':=by
 have HP:=Lib.hid (awP_lay w)
 go_enter Try.func20,Try.ntmps20
 go_wp2_with fail
 refine (nF HP.out.1 HP.out.2.1 (B:=3) (fuel:=5) (o:=some [1,2,3]) (by omega) rfl awP_valid (by simp [awP]) (by simp [awP]) (by simp) awP_out).mono ?_
 rintro en w1 ⟨lv,rfl,hl,hb1⟩
 have HL1:Hid (Ints w1 lv [1,2,3]):=Lib.hid (Own.ints hl)
 have HB1:=Lib.hid (HP.out.2.2.trans (hb1.mono HP.out.2.2.size))
 have HF:=Lib.hid (awF_lay w1)
 clear hl hb1 HP
 go_upto_region 3 with fail
 have HBK:Hid (Blk (((((w1.alloc (.cells #[.int .i64 0, .int .i64 1, .int .i64 (-1), .int .i64 1, .int .i64 0, .int .i64 (-1)] 50)).alloc (.cells #[.int .i64 1] 3)).alloc (.cells #[.int .i64 2] 3)).alloc (.cells #[.slice (some ⟨w1.heap.size+1,0,none⟩) 1 1, .slice (some ⟨w1.heap.size+1+1,0,none⟩) 1 1] 33)).alloc (.cells #[.int .i64 2, .int .i64 2, .slice (some ⟨w1.heap.size,0,none⟩) 2 2, .slice (some ⟨w1.heap.size+1+1+1,0,none⟩) 2 2] 29)) ((((w1.alloc (.cells #[.int .i64 0, .int .i64 1, .int .i64 (-1), .int .i64 1, .int .i64 0, .int .i64 (-1)] 50)).alloc (.cells #[.int .i64 1] 3)).alloc (.cells #[.int .i64 2] 3)).alloc (.cells #[.slice (some ⟨w1.heap.size+1,0,none⟩) 1 1, .slice (some ⟨w1.heap.size+1+1,0,none⟩) 1 1] 33)).heap.size 29 #[.int .i64 2, .int .i64 2, .slice (some ⟨w1.heap.size,0,none⟩) 2 2, .slice (some ⟨w1.heap.size+1+1+1,0,none⟩) 2 2]):=Lib.hid (Blk.new _ _ _)
 rw [HF.out.2.2.1] at HBK
 generalize ((((w1.alloc (.cells #[.int .i64 0, .int .i64 1, .int .i64 (-1), .int .i64 1, .int .i64 0, .int .i64 (-1)] 50)).alloc (.cells #[.int .i64 1] 3)).alloc (.cells #[.int .i64 2] 3)).alloc (.cells #[.slice (some ⟨w1.heap.size+1,0,none⟩) 1 1, .slice (some ⟨w1.heap.size+1+1,0,none⟩) 1 1] 33))=w2 at *
 generalize w1.heap.size+1+1+1+1=b at *
 have HF1:=Lib.hid (HF.out.1.keep ((zL w2.heap.size w2).alloc (Nat.le_refl _) (.cells #[.int .i64 2, .int .i64 2, .slice (some ⟨w1.heap.size,0,none⟩) 2 2, .slice (some ⟨w1.heap.size+1+1+1,0,none⟩) 2 2] 29)))
 have HB2:Hid (Below w2.heap.size w2 (w2.alloc (.cells #[.int .i64 2, .int .i64 2, .slice (some ⟨w1.heap.size,0,none⟩) 2 2, .slice (some ⟨w1.heap.size+1+1+1,0,none⟩) 2 2] 29))):=Lib.hid ((zL w2.heap.size w2).alloc (Nat.le_refl _) _)
 have HB12:=Lib.hid (HB1.out.trans (HF.out.2.2.2.mono HB1.out.size))
 have HSZ:=Lib.hid HF.out.2.2.1
 have HG:=Lib.hid HF.out.2.1
 have HL2:=Lib.hid (HL1.out.keep HF.out.2.2.2)
 clear HF HB1 HL1
 generalize w2.alloc (.cells #[.int .i64 2, .int .i64 2, .slice (some ⟨w1.heap.size,0,none⟩) 2 2, .slice (some ⟨w1.heap.size+1+1+1,0,none⟩) 2 2] 29)=w3 at *
 generalize w1.heap.size+1+1+1=c at *
 generalize w1.heap.size=a at *
 have q0:=HBK.out.cell 0
 have q1:=HBK.out.cell 1
 have q2:=HBK.out.cell 2
 have q3:=HBK.out.cell 3
 simp only [zA,zB,zC] at q0 q1 q2 q3
 obtain ⟨o1,g1,hc1⟩:=eG (f:=awF) (N:=2) (B:=2) HF1.out (rB oS rfl rfl) (by omega) oS (by simp [awF])
 obtain ⟨l1,rfl⟩:=awF_ref g1
 clear g1
 go_wp2_with fail
 refine hc1.mono ?_
 rintro e w4 ⟨v4,rfl,hv4,hb4⟩
 have HBK4:=Lib.hid ((HBK.out.keep hb4).alloc (.cells #[.slice none 0 0, .slice none 0 0] 35))
 have HB4:Hid (Below w2.heap.size w2 (w4.alloc (.cells #[.slice none 0 0, .slice none 0 0] 35))):=Lib.hid ((HB2.out.trans (hb4.mono HB2.out.size)).alloc (HB2.out.trans (hb4.mono HB2.out.size)).size _)
 clear hv4 hb4 hc1 HBK HB2 HF1 q0 q1 q2 q3
 go_upto_region 4 with fail
 generalize w4.alloc (.cells #[.slice none 0 0, .slice none 0 0] 35)=w5 at *
 have q3:=HBK4.out.cell 3
 have z3:=HBK4.out.frozen 3
 simp only [zA,zB,zC] at q3
 have HBK5:=Lib.hid (HBK4.out.set_ 3 (.slice (some ⟨c,0,none⟩) 1 2))
 have HB5:Hid (Below w2.heap.size w2 (w5.setCell ⟨b,3,none⟩ (.slice (some ⟨c,0,none⟩) 1 2))):=Lib.hid (HB4.out.grown (wJ _ _ _ _) HB4.out.size fun j e=>by injection e with e;have:=HSZ.out;omega)
 go_upto_region 5 with fail
 clear q3 z3 HBK4 HB4
 generalize w5.setCell ⟨b,3,none⟩ (.slice (some ⟨c,0,none⟩) 1 2)=w6 at *
 have q0:=HBK5.out.cell 0
 have q1:=HBK5.out.cell 1
 have q2:=HBK5.out.cell 2
 have q3:=HBK5.out.cell 3
 simp [Array.setIfInBounds] at q0 q1 q2 q3
 obtain ⟨o2,g2,hc2⟩:=eG (f:=awG) (N:=2) (B:=2) (HG.out.keep HB5.out) (rB oO rfl rfl) (by omega) oO (by simp [awG])
 obtain ⟨val,rfl, -⟩:=awG_mod g2
 clear g2
 go_wp2_with fail
 refine hc2.mono ?_
 rintro e w7 ⟨bb,gx,xs,rfl, -, -, -, -, -, -, -,hb7⟩
 have HB7:=Lib.hid (HB5.out.trans (hb7.mono HB5.out.size))
 clear hb7 hc2 q0 q1 q2 q3 HBK5 HB5
 have b3:=Blk.new (w7.alloc (.cells #[.slice (some ⟨bb,0,none⟩) 2 2, .slice (some ⟨gx,0,none⟩) 2 2] 35)) 3 #[.int .i64 1, .int .i64 2, .int .i64 3]
 simp only [xR] at b3
 have HI3:Hid (Ints ((w7.alloc (.cells #[.slice (some ⟨bb,0,none⟩) 2 2, .slice (some ⟨gx,0,none⟩) 2 2] 35)).alloc (.cells #[.int .i64 1, .int .i64 2, .int .i64 3] 3)) (.slice (some ⟨w7.heap.size+1,0,none⟩) 3 3) [1,2,3]):=Lib.hid (cL (xs:=[1,2,3]) b3 (zL _ _) (by simp [I64]) (by simp [maxLen]))
 have hbw:Below w2.heap.size w2 ((w7.alloc (.cells #[.slice (some ⟨bb,0,none⟩) 2 2, .slice (some ⟨gx,0,none⟩) 2 2] 35)).alloc (.cells #[.int .i64 1, .int .i64 2, .int .i64 3] 3)):=(HB7.out.alloc HB7.out.size _).alloc (HB7.out.alloc HB7.out.size _).size _
 have HI1:=Lib.hid (HL2.out.keep hbw)
 have HBW:=Lib.hid (HB12.out.trans (hbw.mono HB12.out.size))
 clear b3 hbw HB7 HL2
 go_wp2_with fail
 refine (tG _ _ [1,2,3] [1,2,3] _ HI1.out HI3.out).mono ?_
 rintro e w9 ⟨rfl,n9,rfl⟩
 rw [show decide (([1,2,3]:List Int)=[1,2,3])=true from rfl]
 clear HI1 HI3
 go_wp2_with fail
 go_ret
 exact ⟨rfl,cR HBW.out n9⟩
open Go.ChangeShapes Go.WideShapes Go.ChangeAt Go.RowKit Go.Deep Go.Joins
theorem list_of {α:Type} {n:Nat} {R:Nat→α→Prop} (h:∀i,i<n→∃a,R i a):∃xs:List α,xs.length=n∧∀i a,xs[i]? = some a→R i a:=by
 induction n with
 | zero=>exact ⟨[],rfl,fun i a h=>by simp at h⟩
 | succ n ih =>
  obtain ⟨xs,hl,hx⟩:=ih fun i hi=>h i (by omega)
  obtain ⟨a,ha⟩:=h n (by omega)
  refine ⟨xs++[a],by simp [hl],fun i b hb => ?_⟩
  rw [vY] at hb
  split at hb
  ·exact hx i b hb
  ·rename_i hi
   have:i=n:=by
    have:=(zG.1 hb).1
    simp at this;omega
   subst this
   simp [hl] at hb
   subst hb
   exact ha
theorem flatMap_at {α β:Type} {xs:List α} {g:α→List β} {k:Nat} (hk:∀a,(g a).length=k) {j:Nat} {u:β} (h:(xs.flatMap g)[j]? = some u) :
  ∃i a r,xs[i]? = some a∧(g a)[r]? = some u∧j=i * k+r∧r<k:=by
 induction xs generalizing j with
 | nil=>simp at h
 | cons a t ih =>
  rw [xX,vY] at h
  split at h
  ·rename_i hlt
   exact ⟨0,a,j,rfl,h,by omega,by rw [hk] at hlt;exact hlt⟩
  ·rename_i hge
   obtain ⟨i,b,r,h1,h2,h3,h4⟩:=ih h
   rw [hk] at hge h3
   exact ⟨i+1,b,r,by simpa using h1,h2,by rw [uY];omega,h4⟩
section
variable {H:Type} {enc:TypeId × Value→H} {P:Program} {w:World}
theorem open_sl {α:Type} {Q:α→DataW H→Prop} {g:α→List Value} {t e:TypeId} {fuel k:Nat} {v:Value} {x:DataW H × List MemPlace} (ht:P.underlying t=some (.slice e)) (hk:P.cellsOf e=k) (hk0:0<k) (hg:∀a,(g a).length=k)
  (conv:∀n cs y,DataW.trod enc P w 0 (fun _=>true) true n e cs=some y→∃a,cs=g a∧Q a y.1)
  (h:DataW.trod enc P w 0 (fun _=>true) true fuel t [v]=some x) :
  ∃(xs:List α) (A:Option Addr) (c:Nat) (D:Nat→DataW H),v = .slice A xs.length c∧xs.length≤c∧c≤maxLen∧Rd w A (xs.flatMap g)∧(∀i a,xs[i]? = some a→Q a (D i)) ∧
   (∀i,i<xs.length→∀n∈(D i).weights P e,n∈x.1.weights P t)∧(A=none∨∃n∈x.1.weights P t,n=c * P.bytesOf e):=by
 rcases open_slice ht h with ⟨h0,_⟩|⟨a,len,cap,m,n,D,Pl,hcs,_,hl,hm,hmm,hx,hi⟩
 ·injection h0 with h0
  subst h0
  exact ⟨[],none,0,fun _ => .nil,rfl,by simp,by simp [maxLen],Rd.nil _ _,by simp,by simp, .inl rfl⟩
 ·injection hcs with hcs
  subst hcs
  have hmc:m=cap:=by simpa using hmm
  subst hmc
  have key:∀i,i<len→∃b:α,Q b (D i)∧∀r u,(g b)[r]? = some u→w.cell? (a.add (i * k+r))=some u:=by
   intro i hil
   obtain ⟨cs',hc,htr⟩:=hi i (by omega)
   obtain ⟨b,hb,hQ⟩:=conv _ _ _ htr
   refine ⟨b,hQ,fun r u hu => ?_⟩
   obtain ⟨_,hcl,hat⟩:=World.cells?_some hc
   rw [hk] at hat hcl
   have hr:r<k:=by rw [←hg b];exact (zG.1 hu).1
   have:=hat r hr
   rw [Go.Deep.add_add] at this
   rw [this,hb]
   exact hu
  obtain ⟨xs,hxl,hxs⟩:=list_of key
  subst hxl
  refine ⟨xs,some a,m,D,rfl,hl,hm,?_,fun i b hb=>(hxs i b hb).1,fun i hil q hq => ?_, .inr ⟨_,?_,rfl⟩⟩
  ·intro hpos
   have hx0:0<xs.length:=by
    rcases xs with _|⟨y,ys⟩
    ·simp at hpos
    ·simp
   obtain ⟨b0,hb0⟩:∃b,xs[0]? = some b:=⟨_,List.getElem?_eq_getElem hx0⟩
   obtain ⟨u0,hu0⟩:∃u,(g b0)[0]? = some u:=⟨_,List.getElem?_eq_getElem (by rw [hg];exact hk0)⟩
   have hc0:=(hxs 0 b0 hb0).2 0 u0 hu0
   obtain ⟨b,off,spot⟩:=a
   have hspot:spot=none:=by simpa [Addr.add] using World.cell?_spot hc0
   subst hspot
   have hblk:=vL w _ hc0
   refine ⟨b,off,rfl,by simpa [Addr.add] using hblk,fun j u hu => ?_⟩
   obtain ⟨i,c,r,h1,h2,h3,h4⟩:=flatMap_at hg hu
   have:=(hxs i c h1).2 r u h2
   rw [h3,←Go.WideShapes.add_plain]
   exact this
  ·have hmem:D i∈(List.range xs.length).map D:=List.mem_map.2 ⟨i,List.mem_range.2 hil,rfl⟩
   have hall:∀l:List (DataW H),D i∈l→q∈DataW.weightsAll P e l:=by
    intro l hl
    induction l with
    | nil=>cases hl
    | cons d r ih =>
     rw [DataW.weightsAll,zI]
     rcases zX.1 hl with rfl|hl
     ·exact .inl hq
     ·exact .inr (ih hl)
   rw [hx]
   simp only [DataW.weights,ht,zX,zI]
   exact .inr (.inl (hall _ hmem))
  ·rw [hx]
   simp only [DataW.weights,ht,zX,List.length_map,List.length_range]
   left
   rw [show xs.length+(m-xs.length)=m by omega]
theorem rO {α:Type} (xs:List α) (g:α→Value):xs.flatMap (fun a=>[g a])=xs.map g:=by
 induction xs with
 | nil=>rfl
 | cons a r ih=>simp [ih]
theorem nQ {ts:List TypeId} {vs:List Value} {ds:List (DataW H)} {ps:List MemPlace} (hl:laidOutB P=true) (hr:∀t∈ts,P.readableRec t=true∧t<P.types.size) {W W':World} {sp:Nat→Bool}
  (h:DataW.TrodAll enc P W 0 (fun _=>true) true ts vs ds ps) (hsame:∀p∈ps,W.sameAt W' p) (hs:∀p∈ps,sp p.block=true):DataW.TrodAll enc P W' 0 sp true ts vs ds ps:=by
 induction ts generalizing vs ds ps with
 | nil=>cases vs<;>cases ds<;>simp_all [DataW.TrodAll]
 | cons t ts ih =>
  obtain ⟨v,vs',d,ds',p,q,rfl,rfl,rfl,h1,h2⟩:=trodAll_cons h
  obtain ⟨r1,r2⟩:=hr t (by simp)
  exact ⟨p,q,WideElems.Trod_stays hl r1 r2 h1 (fun x hx=>hsame x (by simp [hx])) (fun x hx=>hs x (by simp [hx])),ih (fun t ht=>hr t (by simp [ht])) h2 (fun x hx=>hsame x (by simp [hx])) (fun x hx=>hs x (by simp [hx])),rfl⟩
theorem law_post {f:Func} {s:ChangeSpec} {W W':World} {args:Array Value} {ds gs:List (DataW H)} {before:List MemPlace} {tb:TypeId} (hW:DataW.Whole enc P f.params.toList s.vars false W args.toList ds gs before)
  (hvars:s.vars=[]) (hres:f.resultTypes = #[tb]) (htb:P.underlying tb=some .bool) (hfn:s.fn H ds={ results:=[.lit (.bool true)],args:=ds })
  (hl:laidOutB P=true) (hr:∀t∈f.params.toList,P.readableRec t=true∧t<P.types.size) (hb:Below W.heap.size W W') :
  s.post enc P f false true false false W args (.bool true) W':=by
 have hlt:∀p∈before,p.block<W.heap.size:=fun p hp=>hW.lt p hp
 have hW':=hW
 obtain ⟨p,q,hA,hV,rfl,hz,hn⟩:=hW
 rw [hvars] at hV
 obtain ⟨rfl,rfl⟩:=trodVars_none hV
 simp only [xA] at *
 have hres1:∀(b:Nat) (sp:Nat→Bool) (hd:Bool),DataW.TrodAll enc P W' b sp hd f.resultTypes.toList ((Value.bool true).resultList f.resultTypes.size) (s.fn H (ds++[])).results []:=by
  intro b sp hd
  rw [xA,hfn,hres]
  exact trodAll_cons_mk (shut_bool htb _) trodAll_mk0
 have hargs:∀sp:Nat→Bool,(∀x∈p,sp x.block=true)→DataW.TrodAll enc P W' 0 sp true f.params.toList args.toList (s.fn H (ds++[])).args p:=by
  intro sp hsp
  rw [xA,hfn]
  exact nQ hl hr hA (fun x hx=>hb.same (hlt x hx)) hsp
 have hvs:∀sp:Nat→Bool,DataW.TrodVars enc P W' sp s.vars (s.fn H (ds++[])).vars []:=by
  intro sp
  rw [xA,hfn,hvars]
  rfl
 refine ⟨ds,[],p,[],p,[],hW',hres1 _ _ _,hargs _ (fun x hx=>by simpa using hlt x hx),hvs _,World.keptBut_mono (fun x hx=>⟨hx,?_⟩) (hb.frame (· ∈ p)),fun h=>by cases h⟩
 exact Or.inr (Or.inl hx)
end
open Go.ChangeShapes Go.WideShapes Go.ChangeAt Go.RowKit Go.Deep Go.Joins
section
variable {H:Type} {enc:TypeId × Value→H} {P:Program} {w:World}
theorem fS {n:Int} (h:(Lit.int .u8 n).wf=true):0≤n∧n≤255:=by
 simpa [Lit.wf,IntKind.min,IntKind.max,IntKind.signed,IntKind.bits] using h
theorem rd_byts {t e:TypeId} {fuel:Nat} {v:Value} {x:DataW H × List MemPlace} (ht:P.underlying t=some (.slice e)) (he:P.underlying e=some (.int .u8)) (hc:P.cellsOf e=1)
  (h:DataW.trod enc P w 0 (fun _=>true) true fuel t [v]=some x):∃xs,Byts w v xs:=by
 obtain ⟨xs,A,c,D,rfl,h1,h2,h3,h4,_,_⟩:=open_sl (α:=Int) (Q:=fun a _=>0≤a∧a≤255) (g:=fun a=>[.int .u8 a]) ht hc (by omega) (fun _=>rfl)
  (fun n cs y hy=>by obtain ⟨a,rfl,_,hw⟩:=uH he hy;exact ⟨a,rfl,fS hw⟩) h
 rw [rO] at h3
 refine ⟨xs,A,c,rfl,h1,h2,fun x hx => ?_,h3⟩
 obtain ⟨i,hi,rfl⟩:=qX hx
 exact h4 i _ (List.getElem?_eq_getElem hi)
set_option maxRecDepth 100000 in
theorem rd_prob {b0:Nat} {W:World} {v:Value} {d:DataW H} {p:List MemPlace} (hv:Value.okWide Try.prog W .any b0 25 v) (h:DataW.Trod enc Try.prog W 0 (fun _=>true) true 25 v d p) :
  ∃a b c L,mO W v a b c L:=by
 obtain ⟨cs,rfl,hsz⟩:=okWide_struct Try.underlying25 hv
 rw [show Try.prog.cellsOf 25=4 by kernel_rfl] at hsz
 obtain ⟨c0,c1,c2,c3,rfl⟩:∃c0 c1 c2 c3,cs = #[c0,c1,c2,c3]:=by
  match cs,hsz with
  | ⟨[c0,c1,c2,c3]⟩,_=>exact ⟨c0,c1,c2,c3,rfl⟩
 obtain ⟨fuel,hf⟩:=h
 obtain ⟨y0,y1,n,_,_,h0,h1⟩:=trod_struct2 Try.underlying25 hf
 have h0':DataW.trod enc Try.prog W 0 (fun _=>true) true n 22 [c0,c1,c2]=some y0:=by
  rw [show Try.prog.cellsOf 22=3 by kernel_rfl] at h0
  exact h0
 have h1':DataW.trod enc Try.prog W 0 (fun _=>true) true n 23 [c3]=some y1:=by
  rw [show Try.prog.cellsOf 23=1 by kernel_rfl] at h1
  exact h1
 obtain ⟨z0,z1,z2,m,_,g0,g1,g2⟩:=trod_array3 Try.underlying22 (by kernel_rfl) h0'
 obtain ⟨a,ea,_,wa⟩:=uH Try.underlying5 g0
 obtain ⟨b,eb,_,wb⟩:=uH Try.underlying5 g1
 obtain ⟨c,ec,_,wc⟩:=uH Try.underlying5 g2
 injection ea with ea
 injection eb with eb
 injection ec with ec
 subst ea eb ec
 obtain ⟨L,hL⟩:=rd_byts Try.underlying23 Try.underlying5 (by kernel_rfl) h1'
 exact ⟨a,b,c,L,c3,rfl,fS wa,fS wb,fS wc,hL⟩
end
open Go.ChangeShapes Go.WideShapes Go.ChangeAt Go.RowKit Go.Deep Go.Joins
theorem SmallF.four {a b c:Int} {f:Form} (h:SmallF a b c f):∀xs∈f.clauses,xs.length≤200000:=fun xs hx=>by
 have:=(h.2.2.2.2.2 xs hx).2.1
 omega
theorem SmallF.nb {a b c:Int} {f:Form} (h:SmallF a b c f):∃B:Nat,f.bools=B∧1≤B∧B≤18:=by
 obtain ⟨-,h2,h3, -⟩:=h
 exact ⟨f.bools.toNat,by omega,by omega,by omega⟩
end Go.Proofs.Yticieifacalocaa
