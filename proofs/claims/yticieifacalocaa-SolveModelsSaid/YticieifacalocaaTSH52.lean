/- Aw34 -/
import Derived.Test.YticieifacalocaaTSH51
namespace Go.Proofs.Yticieifacalocaa
open Go.RowKit
def awP:Form:=⟨0,3,[],[[-1,2],[-2,3]]⟩
def awF:Form:=⟨2,2,[⟨0,1, -1⟩,⟨1,0, -1⟩],[[1],[2]]⟩
def awG:Form:=⟨2,2,[⟨0,1, -1⟩,⟨1,0, -1⟩],[[1]]⟩
theorem awP_valid:validF awP=0:=by decide
theorem mP:validF awF=0:=by decide
theorem mS:validF awG=0:=by decide
theorem awP_out:outP 3 5 awP.clauses [1]=some (some [1,2,3]):=by decide
theorem awF_bad {val:List Int}:¬ModelOk awF 2 val:=by
 intro h
 obtain ⟨x1,m1,l1,t1⟩:=h.cl [1] (by simp [awF])
 obtain ⟨x2,m2,l2,t2⟩:=h.cl [2] (by simp [awF])
 simp at m1 m2
 subst m1 m2
 have e1:val.getD 0 0=1:=t1
 have e2:val.getD 1 0=1:=t2
 obtain ⟨X,hX⟩:=h.sol
 have a1:=hX 0 (by omega) ⟨0,1, -1⟩ (by rw [e1];rfl)
 have a2:=hX 1 (by omega) ⟨1,0, -1⟩ (by rw [e2];rfl)
 simp only at a1 a2
 omega
theorem awF_ref {o:List Int ⊕ List Stp} (h:SlvGood awF 2 o):∃l,o = .inr l:=by
 cases o with
 | inl val=>exact absurd h awF_bad
 | inr l=>exact ⟨l,rfl⟩
theorem awG_mod {o:List Int ⊕ List Stp} (h:SlvGood awG 2 o):∃val,o = .inl val∧ModelOk awG 2 val :=
 h.sat (bs:=[true,false]) (xs:=[0,1]) (fun i d hd=>by
  match i with
  | 0=>simp [awG] at hd;subst hd;rfl
  | 1=>simp [awG] at hd;subst hd;rfl
  | i+2=>simp [awG] at hd) (fun c hc=>by simp [awG] at hc;subst hc;rfl)
theorem awP_lay (w:World):IsForm ((((w.alloc (.cells #[.int .i64 (-1), .int .i64 2] 3)).alloc (.cells #[.int .i64 (-2), .int .i64 3] 3)).alloc (.cells #[.slice (some ⟨w.heap.size,0,none⟩) 2 2, .slice (some ⟨w.heap.size+1,0,none⟩) 2 2] 33)).alloc (.cells #[.int .i64 1] 3)) (.agg #[.int .i64 0, .int .i64 3, .slice none 0 0, .slice (some ⟨w.heap.size+1+1,0,none⟩) 2 2]) awP∧Ints ((((w.alloc (.cells #[.int .i64 (-1), .int .i64 2] 3)).alloc (.cells #[.int .i64 (-2), .int .i64 3] 3)).alloc (.cells #[.slice (some ⟨w.heap.size,0,none⟩) 2 2, .slice (some ⟨w.heap.size+1,0,none⟩) 2 2] 33)).alloc (.cells #[.int .i64 1] 3)) (.slice (some ⟨w.heap.size+1+1+1,0,none⟩) 1 1) [1]∧Below w.heap.size w ((((w.alloc (.cells #[.int .i64 (-1), .int .i64 2] 3)).alloc (.cells #[.int .i64 (-2), .int .i64 3] 3)).alloc (.cells #[.slice (some ⟨w.heap.size,0,none⟩) 2 2, .slice (some ⟨w.heap.size+1,0,none⟩) 2 2] 33)).alloc (.cells #[.int .i64 1] 3)):=by
 have b1:=Blk.new w 3 #[.int .i64 (-1), .int .i64 2]
 have b2:=Blk.new (w.alloc (.cells #[.int .i64 (-1), .int .i64 2] 3)) 3 #[.int .i64 (-2), .int .i64 3]
 have b3:=Blk.new ((w.alloc (.cells #[.int .i64 (-1), .int .i64 2] 3)).alloc (.cells #[.int .i64 (-2), .int .i64 3] 3)) 33 #[.slice (some ⟨w.heap.size,0,none⟩) 2 2, .slice (some ⟨w.heap.size+1,0,none⟩) 2 2]
 have b4:=Blk.new (((w.alloc (.cells #[.int .i64 (-1), .int .i64 2] 3)).alloc (.cells #[.int .i64 (-2), .int .i64 3] 3)).alloc (.cells #[.slice (some ⟨w.heap.size,0,none⟩) 2 2, .slice (some ⟨w.heap.size+1,0,none⟩) 2 2] 33)) 3 #[.int .i64 1]
 simp only [xN] at b1 b2 b3 b4
 have B1:=((b1.alloc (.cells #[.int .i64 (-2), .int .i64 3] 3)).alloc (.cells #[.slice (some ⟨w.heap.size,0,none⟩) 2 2, .slice (some ⟨w.heap.size+1,0,none⟩) 2 2] 33)).alloc (.cells #[.int .i64 1] 3)
 have B2:=(b2.alloc (.cells #[.slice (some ⟨w.heap.size,0,none⟩) 2 2, .slice (some ⟨w.heap.size+1,0,none⟩) 2 2] 33)).alloc (.cells #[.int .i64 1] 3)
 have B3:=b3.alloc (.cells #[.int .i64 1] 3)
 refine ⟨⟨_,_,rfl,by simp [awP,I64],by simp [awP,I64],⟨none,0,rfl,by simp [awP],by simp [maxLen],by simp [awP],fun h=>by simp [awP] at h⟩,?_⟩,bM (xs:=[1]) b4 (zR _ _) (by simp [I64]) (by simp [maxLen]),(((((zR _ _).alloc (Nat.le_refl _) _).alloc (by simp) _).alloc (by simp;omega) _).alloc (by simp;omega) _)⟩
 refine mat_lit (xss:=[[-1,2],[-2,3]]) (vs:=[.slice (some ⟨w.heap.size,0,none⟩) 2 2, .slice (some ⟨w.heap.size+1,0,none⟩) 2 2]) B3 rfl (by simp [maxLen]) (fun k u xs h1 h2 => ?_)
 match k with
 | 0 =>
  simp at h1 h2
  subst h1 h2
  exact bM (xs:=[-1,2]) B1 (zR _ _) (by simp [I64]) (by simp [maxLen])
 | 1 =>
  simp at h1 h2
  subst h1 h2
  exact bM (xs:=[-2,3]) B2 (zR _ _) (by simp [I64]) (by simp [maxLen])
 | k+2=>simp at h1
theorem awF_lay (w:World):IsForm ((((w.alloc (.cells #[.int .i64 0, .int .i64 1, .int .i64 (-1), .int .i64 1, .int .i64 0, .int .i64 (-1)] 50)).alloc (.cells #[.int .i64 1] 3)).alloc (.cells #[.int .i64 2] 3)).alloc (.cells #[.slice (some ⟨w.heap.size+1,0,none⟩) 1 1, .slice (some ⟨w.heap.size+1+1,0,none⟩) 1 1] 33)) (.agg #[.int .i64 2, .int .i64 2, .slice (some ⟨w.heap.size,0,none⟩) 2 2, .slice (some ⟨w.heap.size+1+1+1,0,none⟩) 2 2]) awF∧IsForm ((((w.alloc (.cells #[.int .i64 0, .int .i64 1, .int .i64 (-1), .int .i64 1, .int .i64 0, .int .i64 (-1)] 50)).alloc (.cells #[.int .i64 1] 3)).alloc (.cells #[.int .i64 2] 3)).alloc (.cells #[.slice (some ⟨w.heap.size+1,0,none⟩) 1 1, .slice (some ⟨w.heap.size+1+1,0,none⟩) 1 1] 33)) (.agg #[.int .i64 2, .int .i64 2, .slice (some ⟨w.heap.size,0,none⟩) 2 2, .slice (some ⟨w.heap.size+1+1+1,0,none⟩) 1 2]) awG∧((((w.alloc (.cells #[.int .i64 0, .int .i64 1, .int .i64 (-1), .int .i64 1, .int .i64 0, .int .i64 (-1)] 50)).alloc (.cells #[.int .i64 1] 3)).alloc (.cells #[.int .i64 2] 3)).alloc (.cells #[.slice (some ⟨w.heap.size+1,0,none⟩) 1 1, .slice (some ⟨w.heap.size+1+1,0,none⟩) 1 1] 33)).heap.size=w.heap.size+1+1+1+1∧Below w.heap.size w ((((w.alloc (.cells #[.int .i64 0, .int .i64 1, .int .i64 (-1), .int .i64 1, .int .i64 0, .int .i64 (-1)] 50)).alloc (.cells #[.int .i64 1] 3)).alloc (.cells #[.int .i64 2] 3)).alloc (.cells #[.slice (some ⟨w.heap.size+1,0,none⟩) 1 1, .slice (some ⟨w.heap.size+1+1,0,none⟩) 1 1] 33)):=by
 have b1:=Blk.new w 50 #[.int .i64 0, .int .i64 1, .int .i64 (-1), .int .i64 1, .int .i64 0, .int .i64 (-1)]
 have b2:=Blk.new (w.alloc (.cells #[.int .i64 0, .int .i64 1, .int .i64 (-1), .int .i64 1, .int .i64 0, .int .i64 (-1)] 50)) 3 #[.int .i64 1]
 have b3:=Blk.new ((w.alloc (.cells #[.int .i64 0, .int .i64 1, .int .i64 (-1), .int .i64 1, .int .i64 0, .int .i64 (-1)] 50)).alloc (.cells #[.int .i64 1] 3)) 3 #[.int .i64 2]
 have b4:=Blk.new (((w.alloc (.cells #[.int .i64 0, .int .i64 1, .int .i64 (-1), .int .i64 1, .int .i64 0, .int .i64 (-1)] 50)).alloc (.cells #[.int .i64 1] 3)).alloc (.cells #[.int .i64 2] 3)) 33 #[.slice (some ⟨w.heap.size+1,0,none⟩) 1 1, .slice (some ⟨w.heap.size+1+1,0,none⟩) 1 1]
 simp only [xN] at b1 b2 b3 b4
 have B1:=(((b1.alloc (.cells #[.int .i64 1] 3)).alloc (.cells #[.int .i64 2] 3)).alloc (.cells #[.slice (some ⟨w.heap.size+1,0,none⟩) 1 1, .slice (some ⟨w.heap.size+1+1,0,none⟩) 1 1] 33))
 have B2:=((b2.alloc (.cells #[.int .i64 2] 3)).alloc (.cells #[.slice (some ⟨w.heap.size+1,0,none⟩) 1 1, .slice (some ⟨w.heap.size+1+1,0,none⟩) 1 1] 33))
 have B3:=(b3.alloc (.cells #[.slice (some ⟨w.heap.size+1,0,none⟩) 1 1, .slice (some ⟨w.heap.size+1+1,0,none⟩) 1 1] 33))
 have B4:=b4
 have hD:Diffs ((((w.alloc (.cells #[.int .i64 0, .int .i64 1, .int .i64 (-1), .int .i64 1, .int .i64 0, .int .i64 (-1)] 50)).alloc (.cells #[.int .i64 1] 3)).alloc (.cells #[.int .i64 2] 3)).alloc (.cells #[.slice (some ⟨w.heap.size+1,0,none⟩) 1 1, .slice (some ⟨w.heap.size+1+1,0,none⟩) 1 1] 33)) (.slice (some ⟨w.heap.size,0,none⟩) 2 2) [⟨0,1, -1⟩,⟨1,0, -1⟩]:=diffs_lit (ds:=[⟨0,1, -1⟩,⟨1,0, -1⟩]) B1 (by simp [Diff.ok,I64]) (by simp [maxLen])
 have hM:Mat ((((w.alloc (.cells #[.int .i64 0, .int .i64 1, .int .i64 (-1), .int .i64 1, .int .i64 0, .int .i64 (-1)] 50)).alloc (.cells #[.int .i64 1] 3)).alloc (.cells #[.int .i64 2] 3)).alloc (.cells #[.slice (some ⟨w.heap.size+1,0,none⟩) 1 1, .slice (some ⟨w.heap.size+1+1,0,none⟩) 1 1] 33)) (.slice (some ⟨w.heap.size+1+1+1,0,none⟩) 2 2) [[1],[2]]:=by
  refine mat_lit (xss:=[[1],[2]]) (vs:=[.slice (some ⟨w.heap.size+1,0,none⟩) 1 1, .slice (some ⟨w.heap.size+1+1,0,none⟩) 1 1]) B4 rfl (by simp [maxLen]) (fun k u xs h1 h2 => ?_)
  match k with
  | 0 =>
   simp at h1 h2
   subst h1 h2
   exact bM (xs:=[1]) B2 (zR _ _) (by simp [I64]) (by simp [maxLen])
  | 1 =>
   simp at h1 h2
   subst h1 h2
   exact bM (xs:=[2]) B3 (zR _ _) (by simp [I64]) (by simp [maxLen])
  | k+2=>simp at h1
 have hG:Mat ((((w.alloc (.cells #[.int .i64 0, .int .i64 1, .int .i64 (-1), .int .i64 1, .int .i64 0, .int .i64 (-1)] 50)).alloc (.cells #[.int .i64 1] 3)).alloc (.cells #[.int .i64 2] 3)).alloc (.cells #[.slice (some ⟨w.heap.size+1,0,none⟩) 1 1, .slice (some ⟨w.heap.size+1+1,0,none⟩) 1 1] 33)) (.slice (some ⟨w.heap.size+1+1+1,0,none⟩) 1 2) [[1]]:=by
  obtain ⟨A,c,vs,hv,h1,h2,h3,h4,h5⟩:=hM
  injection hv with e1 e2 e3
  subst e1 e3
  match vs,h3 with
  | [u1,u2],_ =>
   refine ⟨_,_,[u1],rfl,by simp,h2,rfl,fun h0 => ?_,fun k u xs g1 g2 => ?_⟩
   ·obtain ⟨b,off,hA,hb,hc⟩:=h4 (by simp)
    refine ⟨b,off,hA,hb,fun j u hu => ?_⟩
    match j with
    | 0=>exact hc 0 u (by simpa using hu)
    | j+1=>simp at hu
   ·match k with
    | 0=>exact h5 0 u xs (by simpa using g1) (by simpa using g2)
    | k+1=>simp at g1
 refine ⟨⟨_,_,rfl,by simp [awF,I64],by simp [awF,I64],hD,hM⟩,⟨_,_,rfl,by simp [awG,I64],by simp [awG,I64],hD,hG⟩,by simp,(((((zR _ _).alloc (Nat.le_refl _) _).alloc (by simp) _).alloc (by simp;omega) _).alloc (by simp;omega) _)⟩
set_option maxRecDepth 100000 in
set_option maxHeartbeats 2000000 in
theorem awake34 (w:World):Calls Try.prog 20 #[] w fun e w'=>e = .returned (.bool true)∧Below w.heap.size w w':=by
 have HP:=Lib.hid (awP_lay w)
 go_enter Try.func20,Try.ntmps20
 go_wp2_with fail
 refine (lC HP.out.1 HP.out.2.1 (B:=3) (fuel:=5) (o:=some [1,2,3]) (by omega) rfl awP_valid (by simp [awP]) (by simp [awP]) (by simp) awP_out).mono ?_
 rintro en w1 ⟨lv,rfl,hl,hb1⟩
 have HL1:Hid (Ints w1 lv [1,2,3]):=Lib.hid (Own.ints hl)
 have HB1:=Lib.hid (HP.out.2.2.trans (hb1.mono HP.out.2.2.size))
 have HF:=Lib.hid (awF_lay w1)
 clear hl hb1 HP
 go_upto_region 3 with fail
 have HBK:Hid (Blk (((((w1.alloc (.cells #[.int .i64 0, .int .i64 1, .int .i64 (-1), .int .i64 1, .int .i64 0, .int .i64 (-1)] 50)).alloc (.cells #[.int .i64 1] 3)).alloc (.cells #[.int .i64 2] 3)).alloc (.cells #[.slice (some ⟨w1.heap.size+1,0,none⟩) 1 1, .slice (some ⟨w1.heap.size+1+1,0,none⟩) 1 1] 33)).alloc (.cells #[.int .i64 2, .int .i64 2, .slice (some ⟨w1.heap.size,0,none⟩) 2 2, .slice (some ⟨w1.heap.size+1+1+1,0,none⟩) 2 2] 29)) ((((w1.alloc (.cells #[.int .i64 0, .int .i64 1, .int .i64 (-1), .int .i64 1, .int .i64 0, .int .i64 (-1)] 50)).alloc (.cells #[.int .i64 1] 3)).alloc (.cells #[.int .i64 2] 3)).alloc (.cells #[.slice (some ⟨w1.heap.size+1,0,none⟩) 1 1, .slice (some ⟨w1.heap.size+1+1,0,none⟩) 1 1] 33)).heap.size 29 #[.int .i64 2, .int .i64 2, .slice (some ⟨w1.heap.size,0,none⟩) 2 2, .slice (some ⟨w1.heap.size+1+1+1,0,none⟩) 2 2]):=Lib.hid (Blk.new _ _ _)
 rw [HF.out.2.2.1] at HBK
 generalize ((((w1.alloc (.cells #[.int .i64 0, .int .i64 1, .int .i64 (-1), .int .i64 1, .int .i64 0, .int .i64 (-1)] 50)).alloc (.cells #[.int .i64 1] 3)).alloc (.cells #[.int .i64 2] 3)).alloc (.cells #[.slice (some ⟨w1.heap.size+1,0,none⟩) 1 1, .slice (some ⟨w1.heap.size+1+1,0,none⟩) 1 1] 33))=w2 at *
 generalize w1.heap.size+1+1+1+1=b at *
 have HF1:=Lib.hid (HF.out.1.keep ((zR w2.heap.size w2).alloc (Nat.le_refl _) (.cells #[.int .i64 2, .int .i64 2, .slice (some ⟨w1.heap.size,0,none⟩) 2 2, .slice (some ⟨w1.heap.size+1+1+1,0,none⟩) 2 2] 29)))
 have HB2:Hid (Below w2.heap.size w2 (w2.alloc (.cells #[.int .i64 2, .int .i64 2, .slice (some ⟨w1.heap.size,0,none⟩) 2 2, .slice (some ⟨w1.heap.size+1+1+1,0,none⟩) 2 2] 29))):=Lib.hid ((zR w2.heap.size w2).alloc (Nat.le_refl _) _)
 have HB12:=Lib.hid (HB1.out.trans (HF.out.2.2.2.mono HB1.out.size))
 have HSZ:=Lib.hid HF.out.2.2.1
 have HG:=Lib.hid HF.out.2.1
 have HL2:=Lib.hid (HL1.out.keep HF.out.2.2.2)
 clear HF HB1 HL1
 generalize w2.alloc (.cells #[.int .i64 2, .int .i64 2, .slice (some ⟨w1.heap.size,0,none⟩) 2 2, .slice (some ⟨w1.heap.size+1+1+1,0,none⟩) 2 2] 29)=w3 at *
 generalize w1.heap.size+1+1+1=c at *
 generalize w1.heap.size=a at *
 have q0:=HBK.out.cell 0
 have q1:=HBK.out.cell 1
 have q2:=HBK.out.cell 2
 have q3:=HBK.out.cell 3
 simp only [zA,zB,zC] at q0 q1 q2 q3
 obtain ⟨o1,g1,hc1⟩:=cV (f:=awF) (N:=2) (B:=2) HF1.out (nK mP rfl rfl) (by omega) mP (by simp [awF])
 obtain ⟨l1,rfl⟩:=awF_ref g1
 clear g1
 go_wp2_with fail
 refine hc1.mono ?_
 rintro e w4 ⟨v4,rfl,hv4,hb4⟩
 have HBK4:=Lib.hid ((HBK.out.keep hb4).alloc (.cells #[.slice none 0 0, .slice none 0 0] 35))
 have HB4:Hid (Below w2.heap.size w2 (w4.alloc (.cells #[.slice none 0 0, .slice none 0 0] 35))):=Lib.hid ((HB2.out.trans (hb4.mono HB2.out.size)).alloc (HB2.out.trans (hb4.mono HB2.out.size)).size _)
 clear hv4 hb4 hc1 HBK HB2 HF1 q0 q1 q2 q3
 go_upto_region 4 with fail
 generalize w4.alloc (.cells #[.slice none 0 0, .slice none 0 0] 35)=w5 at *
 have q3:=HBK4.out.cell 3
 have z3:=HBK4.out.frozen 3
 simp only [zA,zB,zC] at q3
 have HBK5:=Lib.hid (HBK4.out.set_ 3 (.slice (some ⟨c,0,none⟩) 1 2))
 have HB5:Hid (Below w2.heap.size w2 (w5.setCell ⟨b,3,none⟩ (.slice (some ⟨c,0,none⟩) 1 2))):=Lib.hid (HB4.out.grown (jY _ _ _ _) HB4.out.size fun j e=>by injection e with e;have:=HSZ.out;omega)
 go_upto_region 5 with fail
 clear q3 z3 HBK4 HB4
 generalize w5.setCell ⟨b,3,none⟩ (.slice (some ⟨c,0,none⟩) 1 2)=w6 at *
 have q0:=HBK5.out.cell 0
 have q1:=HBK5.out.cell 1
 have q2:=HBK5.out.cell 2
 have q3:=HBK5.out.cell 3
 simp [Array.setIfInBounds] at q0 q1 q2 q3
 obtain ⟨o2,g2,hc2⟩:=cV (f:=awG) (N:=2) (B:=2) (HG.out.keep HB5.out) (nK mS rfl rfl) (by omega) mS (by simp [awG])
 obtain ⟨val,rfl, -⟩:=awG_mod g2
 clear g2
 go_wp2_with fail
 refine hc2.mono ?_
 rintro e w7 ⟨bb,gx,xs,rfl, -, -, -, -, -, -, -,hb7⟩
 have HB7:=Lib.hid (HB5.out.trans (hb7.mono HB5.out.size))
 clear hb7 hc2 q0 q1 q2 q3 HBK5 HB5
 have b3:=Blk.new (w7.alloc (.cells #[.slice (some ⟨bb,0,none⟩) 2 2, .slice (some ⟨gx,0,none⟩) 2 2] 35)) 3 #[.int .i64 1, .int .i64 2, .int .i64 3]
 simp only [xN] at b3
 have HI3:Hid (Ints ((w7.alloc (.cells #[.slice (some ⟨bb,0,none⟩) 2 2, .slice (some ⟨gx,0,none⟩) 2 2] 35)).alloc (.cells #[.int .i64 1, .int .i64 2, .int .i64 3] 3)) (.slice (some ⟨w7.heap.size+1,0,none⟩) 3 3) [1,2,3]):=Lib.hid (bM (xs:=[1,2,3]) b3 (zR _ _) (by simp [I64]) (by simp [maxLen]))
 have hbw:Below w2.heap.size w2 ((w7.alloc (.cells #[.slice (some ⟨bb,0,none⟩) 2 2, .slice (some ⟨gx,0,none⟩) 2 2] 35)).alloc (.cells #[.int .i64 1, .int .i64 2, .int .i64 3] 3)):=(HB7.out.alloc HB7.out.size _).alloc (HB7.out.alloc HB7.out.size _).size _
 have HI1:=Lib.hid (HL2.out.keep hbw)
 have HBW:=Lib.hid (HB12.out.trans (hbw.mono HB12.out.size))
 clear b3 hbw HB7 HL2
 go_wp2_with fail
 refine (same_any _ _ [1,2,3] [1,2,3] _ HI1.out HI3.out).mono ?_
 rintro e w9 ⟨rfl,n9,rfl⟩
 rw [show decide (([1,2,3]:List Int)=[1,2,3])=true from rfl]
 clear HI1 HI3
 go_wp2_with fail
 go_ret
 exact ⟨rfl,bO HBW.out n9⟩
end Go.Proofs.Yticieifacalocaa
