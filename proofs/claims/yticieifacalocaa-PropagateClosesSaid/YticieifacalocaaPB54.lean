/- Cont34 HoldsR PrpUse LawPCl -/
import Derived.Test.YticieifacalocaaPB25
import Derived.RegionTactic
import Derived.ChangeAlike
import Derived.Test.YticieifacalocaaPB1
import Derived.Test.YticieifacalocaaPB52
import Derived.Test.YticieifacalocaaPB5
import Derived.Deep.RegionLawGrows
import Derived.ArgAppend
namespace Go.Proofs.Yticieifacalocaa
open Go.RowKit
set_option maxRecDepth 100000 in
theorem contains34 (v:Value) (zs:List Int) (x:Int) (w:World) (hv:Ints w v zs) :
  Calls Try.prog 28 #[v, .int .i64 x] w fun e w'=>e = .returned (.bool (decide (x∈zs)))∧w=w':=by
 obtain ⟨A,c,rfl,h1,h2,h3,hr⟩:=hv
 unfold maxLen at h2
 have HR:=Lib.hid hr
 clear h3 hr
 go_enter Try.func28,Try.ntmps28
 go_wp2_with fail
 go_loop [9] (fun i=>∃k:Nat,k≤zs.length∧i = .int .i64 k∧x∉zs.take k) (fun i=>zs.length-(intOf i).toNat)
 case atStart=>exact ⟨0,by omega,rfl,by simp⟩
 case round =>
  obtain ⟨k,hk,rfl,hno⟩:=hrel
  have HNO:=Lib.hid hno
  clear hno
  by_cases hlt:k<zs.length
  ·obtain ⟨y,hy⟩:∃y,zs[k]? = some y:=⟨_,List.getElem?_eq_getElem hlt⟩
   obtain ⟨b,o,rfl,hb,hc⟩:=HR.out.int hy
   have HY:=Lib.hid hy
   clear hy
   by_cases e:y=x
   ·have de:(y == x)=true:=by simp [e]
    have HIN:Hid (x∈zs):=e ▸ List.mem_of_getElem? HY.out
    clear e
    go_wp2_with fail
    go_ret
    exact ⟨ret_bool (by simp [HIN.out]),rfl⟩
   ·have de:(y == x)=false:=by simp;exact e
    have HN:Hid (x∉zs.take (k+1)):=by
     refine Lib.hid ?_
     rw [take_succ_of HY.out]
     simp only [List.mem_append,List.mem_singleton,not_or]
     exact ⟨HNO.out,fun h=>e h.symm⟩
    clear e
    go_wp2_with fail
    go_round
    case rel=>exact ⟨k+1,by omega,by go_num,HN.out⟩
    case measure=>simp [intOf];omega
  ·have HN:Hid (x∉zs):=by
    have h:=HNO.out
    rwa [List.take_of_length_le (by omega)] at h
   go_wp2_with fail
   go_ret
   exact ⟨ret_bool (by simp [HN.out]),rfl⟩
end Go.Proofs.Yticieifacalocaa
namespace Go.Proofs.Yticieifacalocaa
open Go.RowKit
section
variable (bv iv:Value) (bs:List Bool) (w:World)
end
end Go.Proofs.Yticieifacalocaa
namespace Go.Proofs.Yticieifacalocaa
theorem mem_litsF:∀(val:List Int) (i:Nat) (l:Int),l∈litsF i val↔∃k,k<val.length∧((val.getD k 0=1∧l=((i+k:Nat):Int)+1)∨(val.getD k 0 = -1∧l = -(((i+k:Nat):Int)+1))):=by
 intro val
 induction val with
 | nil=>intro i l;simp [litsF]
 | cons y r ih =>
  intro i l
  rw [litsF,List.mem_append,ih]
  constructor
  ·rintro (h|⟨k,h1,h2⟩)
   ·refine ⟨0,by simp,?_⟩
    by_cases h3:y=1
    ·rw [if_pos h3] at h;exact .inl ⟨h3,by simpa using h⟩
    ·rw [if_neg h3] at h
     by_cases h4:y = -1
     ·rw [if_pos h4] at h;exact .inr ⟨h4,by simpa using h⟩
     ·rw [if_neg h4] at h;cases h
   ·refine ⟨k+1,by simpa using h1,?_⟩
    rw [show i+(k+1)=i+1+k by omega]
    simpa using h2
  ·rintro ⟨k,h1,h2⟩
   cases k with
   | zero =>
    refine .inl ?_
    rcases h2 with ⟨h3,h4⟩|⟨h3,h4⟩
    ·have h3:y=1:=h3
     rw [if_pos h3];simpa using h4
    ·have h3:y = -1:=h3
     rw [if_neg (by omega),if_pos h3];simpa using h4
   | succ k =>
    refine .inr ⟨k,by simpa using h1,?_⟩
    rw [show i+1+k=i+(k+1) by omega]
    simpa using h2
theorem mem_trueIn {B:Nat} {val:List Int} (hl:val.length=B) {l:Int}:l∈litsF 0 val↔TrueIn B val l:=by
 rw [mem_litsF]
 constructor
 ·rintro ⟨k,h1,⟨h2,rfl⟩|⟨h2,rfl⟩⟩
  ·rw [Nat.zero_add];exact ⟨litB_pos (by omega),by rw [tv_pos];exact h2⟩
  ·rw [Nat.zero_add];exact ⟨litB_neg1 (by omega),by rw [tv_neg1];omega⟩
 ·rintro ⟨h1,h2⟩
  obtain ⟨h3,h4⟩:=litB_iff.1 h1
  refine ⟨vr l,by omega,?_⟩
  unfold tv at h2
  rw [Nat.zero_add]
  by_cases h5:l<0
  ·rw [if_pos h5] at h2
   exact .inr ⟨by omega,by unfold vr;omega⟩
  ·rw [if_neg h5] at h2
   exact .inl ⟨by omega,by unfold vr;omega⟩
section
variable {B:Nat} {gs:List (List Int)} {ls ms a b:List Int} {o:Option (List Int)} {M:Int→Prop} {bs:List Bool}
theorem Closed.less (h:Closed B gs ms M) (hs:∀l∈ls,l∈ms):Closed B gs ls M:=⟨h.rng,h.two,fun l hl=>h.ls l (hs l hl),h.cl⟩
theorem PrpOk.none_grow (h:PrpOk B gs ls none) (ho:PrpOk B gs ms o) (hs:∀l∈ls,l∈ms):o=none:=by
 cases o with
 | none=>rfl
 | some b=>obtain ⟨val, -, -, -,h4, -⟩:=ho;exact absurd (h4.less hs) (h _)
theorem PrpOk.grow (h:PrpOk B gs ls (some a)) (ho:PrpOk B gs ms (some b)) (hs:∀l∈ls,l∈ms):∀l∈a,l∈b:=by
 obtain ⟨v1,a1,a2,rfl,a4,a5⟩:=h
 obtain ⟨v2,b1,b2,rfl,b4,b5⟩:=ho
 intro l hl
 rw [mem_trueIn a1] at hl
 rw [mem_trueIn b1]
 exact a5 _ (b4.less hs) l hl
theorem PrpOk.has (h:PrpOk B gs ls (some a)):∀l∈ls,l∈a:=by
 obtain ⟨v1,a1,a2,rfl,a4,a5⟩:=h
 exact fun l hl=>(mem_trueIn a1).2 (a4.ls l hl)
theorem PrpOk.again (h:PrpOk B gs ls (some a)) (ho:PrpOk B gs a o):o=some a:=by
 refine ho.uniq (b:=some a) ?_
 obtain ⟨v1,a1,a2,rfl,a4,a5⟩:=h
 exact ⟨v1,a1,a2,rfl,⟨a4.rng,a4.two,fun l hl=>(mem_trueIn a1).1 hl,a4.cl⟩,fun M hM l hl=>hM.ls l ((mem_trueIn a1).2 hl)⟩
theorem PrpOk.len (h:PrpOk B gs ls (some a)):a.length≤B:=by
 obtain ⟨v1,a1,a2,rfl,a4,a5⟩:=h
 rw [←a1];exact litsF_len _ _
end
end Go.Proofs.Yticieifacalocaa
namespace Go.Proofs.Yticieifacalocaa
open Go.RowKit
theorem lit_at {W w':World} {t:TypeId} {cs:Array Value} (hb:Below (W.alloc (.cells cs t)).heap.size (W.alloc (.cells cs t)) w'):∀j u,cs.toList[j]? = some u→w'.cell? ((⟨W.heap.size,0,none⟩:Addr).add j)=some u:=by
 intro j u hj
 have h:=(Blk.new W t cs).keep hb
 rw [Addr.add_lit,Nat.zero_add]
 rw [h.cell j]
 simpa using hj
set_option maxRecDepth 100000 in
set_option maxHeartbeats 4000000 in
theorem lawPCl (pv:Value) (a b c:Int) (L:List Int) (x y:Int) (w:World) (hp:IsProb w pv a b c L) (hx0:0≤x) (hx1:x≤255) (hy0:0≤y) (hy1:y≤255) :
  Calls Try.prog 12 #[pv, .int .u8 x, .int .u8 y] w fun e w'=>e = .returned (.bool true)∧Below w.heap.size w w':=by
 obtain ⟨iI,hiI,hzI0,hzI1,hzI2⟩:=info_parts info_int
 have HP:=Lib.hid hp
 obtain ⟨nv,rfl, -, -, -,hL⟩:=hp
 obtain ⟨An,cn,rfl, -, -, -, -⟩:=hL
 have HB:Hid (Below w.heap.size w (w.alloc (.cells #[.int .u8 a, .int .u8 b, .int .u8 c, .slice An L.length cn] 25))):=Lib.hid ((Below.refl _ _).alloc (Nat.le_refl _) _)
 go_enter Try.func12,Try.ntmps12
 go_wp2_with fail
 generalize w.alloc (.cells #[.int .u8 a, .int .u8 b, .int .u8 c, .slice An L.length cn] 25)=W at *
 refine (problem_any _ a b c L _ ?hp).mono ?_
 case hp=>obtain ⟨nv,e1,e2⟩:=HP.out;exact ⟨_,rfl,e2.1,e2.2.1,e2.2.2.1,by injection e1 with e1;simp only [Array.mk.injEq,List.cons.injEq,and_true,true_and] at e1;rw [e1];exact e2.2.2.2.keep HB.out⟩
 rintro e w2 ⟨fv,f,rfl,hf,hsm,hb2⟩
 obtain ⟨B,hB,hB1,hB2⟩:=SmallF.bools hsm
 have HB2:=Lib.hid (HB.out.trans (hb2.mono HB.out.size))
 have HF2:=Lib.hid hf
 have HSM:=Lib.hid hsm
 obtain ⟨av,cv,rfl, -, -,hf3,hf4⟩:=hf
 obtain ⟨Aa,ca,rfl, -, -, -, -⟩:=hf3
 obtain ⟨Ac,cc,vs,rfl, -, -, -, -, -⟩:=hf4
 clear hb2 hsm HB HP
 obtain ⟨r,hr⟩:∃r:Nat,x.tmod (B:Int)=(r:Int):=⟨(x.tmod (B:Int)).toNat,by have:=Int.tmod_nonneg (B:Int) hx0;omega⟩
 obtain ⟨q,hq⟩:∃q:Nat,y.tmod (B:Int)=(q:Int):=⟨(y.tmod (B:Int)).toNat,by have:=Int.tmod_nonneg (B:Int) hy0;omega⟩
 have hrB:r<B:=by have:=Int.tmod_lt_of_pos x (b:=(B:Int)) (by omega);omega
 have hqB:q<B:=by have:=Int.tmod_lt_of_pos y (b:=(B:Int)) (by omega);omega
 have HBK:=Lib.hid (Blk.new w2 29 #[.int .i64 f.ints, .int .i64 (B:Int), .slice Aa f.atoms.length ca, .slice Ac f.clauses.length cc])
 have hb3:Below w2.heap.size w2 (w2.alloc (.cells #[.int .i64 f.ints, .int .i64 (B:Int), .slice Aa f.atoms.length ca, .slice Ac f.clauses.length cc] 29)):=(Below.refl _ _).alloc (Nat.le_refl _) _
 have HF3:=Lib.hid (HF2.out.keep hb3)
 have HB3:=Lib.hid (HB2.out.trans (hb3.mono HB2.out.size))
 rw [hB] at HF3
 clear hb3 HF2 HB2
 go_upto_region 2 with fail
 generalize w2.alloc (.cells #[.int .i64 f.ints, .int .i64 (B:Int), .slice Aa f.atoms.length ca, .slice Ac f.clauses.length cc] 29)=w3 at *
 generalize w2.heap.size=bk at *
 have HO1:Hid ((w3.alloc (.cells #[.int .i64 ((1:Int)+(r:Int))] 3)).ownsRow w3.heap.size 3 1 (.slice (some ⟨w3.heap.size,0,none⟩) 1 1) 1 (ci [(1:Int)+(r:Int)])):=Lib.hid (World.ownsRow_lit w3 #[.int .i64 ((1:Int)+(r:Int))] 1 (Nat.le_refl _) (by simp [maxLen]) rfl)
 have HB4:Hid (Below w3.heap.size w3 (w3.alloc (.cells #[.int .i64 ((1:Int)+(r:Int))] 3))):=Lib.hid ((Below.refl _ _).alloc (Nat.le_refl _) _)
 have HI1:Hid (Ints (w3.alloc (.cells #[.int .i64 ((1:Int)+(r:Int))] 3)) (.slice (some ⟨w3.heap.size,0,none⟩) 1 1) [(1:Int)+(r:Int)]):=Lib.hid (Own.ints (base:=w3.heap.size) ⟨HO1.out,by intro z hz;rw [List.mem_singleton.1 hz];constructor<;>omega⟩)
 have q1:=HBK.out.cell 1
 simp only [List.getElem?_toArray,List.getElem?_cons_zero,List.getElem?_cons_succ] at q1
 have yB:¬((B:Int)=0):=by omega
 go_upto_region 3 with fail
 generalize w3.alloc (.cells #[.int .i64 ((1:Int)+(r:Int))] 3)=w4 at *
 clear q1
 have HBK4:=Lib.hid (HBK.out.keep HB4.out)
 have HF4:=Lib.hid (HF3.out.keep HB4.out)
 have q0:=HBK4.out.cell 0
 have q1:=HBK4.out.cell 1
 have q2:=HBK4.out.cell 2
 have q3:=HBK4.out.cell 3
 simp only [List.getElem?_toArray,List.getElem?_cons_zero,List.getElem?_cons_succ] at q0 q1 q2 q3
 obtain ⟨o1,hk1,hc1, -⟩:=prop_both (f:=f) (SmallF.valid HSM.out) hB (SmallF.lens HSM.out) [(1:Int)+(r:Int)] (by simp)
 obtain ⟨o2,hk2,hc2, -⟩:=prop_both (f:=f) (SmallF.valid HSM.out) hB (SmallF.lens HSM.out) [(1:Int)+(r:Int), -((1:Int)+(q:Int))] (by simp)
 have HC1:=Lib.hid hc1
 have HC2:=Lib.hid hc2
 have HK1:=Lib.hid hk1
 have HK2:=Lib.hid hk2
 clear hc1 hc2 hk1 hk2 HBK HF3
 go_wp2_with fail
 refine (HC1.out w4 _ _ HF4.out HI1.out).mono ?_
 rintro e w5 ⟨v1,rfl,ho1,hb5⟩
 have HV1:=Lib.hid ho1
 have HB5:=Lib.hid hb5
 have HBK5:=Lib.hid (HBK4.out.keep hb5)
 have HF5:=Lib.hid (HF4.out.keep hb5)
 have HI5:=Lib.hid (HI1.out.keep hb5)
 have HO5:=Lib.hid (owns_keep HO1.out hb5)
 clear q0 q1 q2 q3 ho1 hb5 HC1 HBK4 HF4 HI1 HO1
 have q0:=HBK5.out.cell 0
 have q1:=HBK5.out.cell 1
 have q2:=HBK5.out.cell 2
 have q3:=HBK5.out.cell 3
 simp only [List.getElem?_toArray,List.getElem?_cons_zero,List.getElem?_cons_succ] at q0 q1 q2 q3
 have s0:w5.cell? ⟨bk,0,none⟩=some (.int .i64 f.ints)∧w5.cell? ⟨bk,1,none⟩=some (.int .i64 (B:Int))∧w5.cell? ⟨bk,2,none⟩=some (.slice Aa f.atoms.length ca)∧w5.cell? ⟨bk,3,none⟩=some (.slice Ac f.clauses.length cc):=⟨q0,q1,q2,q3⟩
 have s1:(w5.alloc (.cells #[.int .i64 (-((1:Int)+(q:Int)))] 3)).cell? ⟨bk,0,none⟩=some (.int .i64 f.ints)∧(w5.alloc (.cells #[.int .i64 (-((1:Int)+(q:Int)))] 3)).cell? ⟨bk,1,none⟩=some (.int .i64 (B:Int))∧(w5.alloc (.cells #[.int .i64 (-((1:Int)+(q:Int)))] 3)).cell? ⟨bk,2,none⟩=some (.slice Aa f.atoms.length ca)∧(w5.alloc (.cells #[.int .i64 (-((1:Int)+(q:Int)))] 3)).cell? ⟨bk,3,none⟩=some (.slice Ac f.clauses.length cc):=by
  have h:=HBK5.out.alloc (.cells #[.int .i64 (-((1:Int)+(q:Int)))] 3)
  exact ⟨h.cell 0,h.cell 1,h.cell 2,h.cell 3⟩
 have HX1:Hid (∀w',Below w5.heap.size w5 w'→∀b,some (⟨w3.heap.size,0,none⟩:Addr)=some b→∀j u,[Value.int .i64 ((1:Int)+(r:Int))][j]? = some u→w'.cell? (b.add j)=some u):=by
  refine Lib.hid fun w' hb b hbb j u hj => ?_
  injection hbb with hbb
  subst hbb
  obtain ⟨A,c,e1, -, -,hrd⟩:=owns_rd (owns_keep HO5.out hb)
  injection e1 with e1
  subst e1
  obtain ⟨b2,o2,e2, -,hc⟩:=hrd.at_ (k:=j) hj
  injection e2 with e2
  injection e2 with e2 e3
  subst e2 e3
  rw [Addr.add_lit]
  exact hc
 have HI2:Hid (∀z∈[(1:Int)+(r:Int), -((1:Int)+(q:Int))],I64 z):=by
  refine Lib.hid fun z hz => ?_
  rcases List.mem_cons.1 hz with rfl|hz
  ·constructor<;>omega
  ·rw [List.mem_singleton.1 hz];constructor<;>omega
 have yB2:¬(B=0):=by omega
 have z1:IntKind.i64.wrap y=y:=IntWalk.i64_in _ (by omega)
 have z2:IntKind.i64.wrap (q:Int)=(q:Int):=IntWalk.i64_in _ (by omega)
 have z3:IntKind.i64.wrap ((1:Int)+(q:Int))=(1:Int)+(q:Int):=IntWalk.i64_in _ (by omega)
 have z4:IntKind.i64.wrap (-((1:Int)+(q:Int))) = -((1:Int)+(q:Int)):=IntWalk.i64_in _ (by omega)
 go_upto_region 4 with fail
 go_region_held_law (fun w'=>w'.cell? ⟨bk,0,none⟩=some (.int .i64 f.ints)∧w'.cell? ⟨bk,1,none⟩=some (.int .i64 (B:Int))∧w'.cell? ⟨bk,2,none⟩=some (.slice Aa f.atoms.length ca)∧w'.cell? ⟨bk,3,none⟩=some (.slice Ac f.clauses.length cc)) (first|exact s0|exact s1|exact s2|exact s3) (first
  | (refine step_append_grows rfl (.tmp 34) (.tmp 42) 33 rfl 3 iI (.int .i64 0) 1 8 Try.underlying33 hiI hzI0 hzI1 hzI2 rfl (by decide) (some ⟨w3.heap.size,0,none⟩) 1 1 [.int .i64 ((1:Int)+(r:Int))] (by first|rfl|(simp [Act.eval];done)) (fun h=>by cases h) rfl (HX1.out _ (by go_grown)) ⟨w5.heap.size,0,none⟩ 1 1 [.int .i64 (-((1:Int)+(q:Int)))] (by first|rfl|(simp [Act.eval];done)) rfl (lit_at (W:=w5) (t:=3) (cs := #[.int .i64 (-((1:Int)+(q:Int)))]) (by first|exact Below.refl _ _|exact (Below.refl _ _).drew)) (by intro u hu;rw [List.mem_singleton.1 hu];rfl) (by decide) (by simp [maxLen]) (by decide) ?_;intro v6 w6 hown6 hgrow6;have HX6:Hid (w6.ownsRow w5.heap.size 3 1 v6 2 (ci [(1:Int)+(r:Int), -((1:Int)+(q:Int))])∧Below w5.heap.size w5 w6):=Lib.hid ⟨owns_base hown6 (by simp),((((Below.refl _ _).alloc (Nat.le_refl _) _).drew.grown hgrow6 (by simp) (fun g hg=>by cases hg)))⟩;clear hown6 hgrow6;have s2:w6.cell? ⟨bk,0,none⟩=some (.int .i64 f.ints)∧w6.cell? ⟨bk,1,none⟩=some (.int .i64 (B:Int))∧w6.cell? ⟨bk,2,none⟩=some (.slice Aa f.atoms.length ca)∧w6.cell? ⟨bk,3,none⟩=some (.slice Ac f.clauses.length cc):=⟨(HBK5.out.keep HX6.out.2).cell 0,(HBK5.out.keep HX6.out.2).cell 1,(HBK5.out.keep HX6.out.2).cell 2,(HBK5.out.keep HX6.out.2).cell 3⟩)
  | (refine step_call_ret rfl 25 _ _ rfl _ Try.func25 (by kernel_rfl) (by kernel_rfl) #[.agg #[.int .i64 f.ints, .int .i64 (B:Int), .slice Aa f.atoms.length ca, .slice Ac f.clauses.length cc],v6] (by first|rfl|(simp [Act.eval,Act.put];done)) (HC2.out w6 _ _ (HF5.out.keep HX6.out.2) (Own.ints (base:=w5.heap.size) ⟨HX6.out.1,HI2.out⟩)) (fun e w' h=>by obtain ⟨v,h, -⟩:=h;exact ⟨_,h⟩) ?_;rintro v9 w9 ⟨v2,hv9,ho2,hb9⟩;injection hv9 with hv9;subst hv9;have HV2:=Lib.hid (And.intro ho2 (HX6.out.2.trans (hb9.mono HX6.out.2.size)));clear ho2 hb9;have s3:w9.cell? ⟨bk,0,none⟩=some (.int .i64 f.ints)∧w9.cell? ⟨bk,1,none⟩=some (.int .i64 (B:Int))∧w9.cell? ⟨bk,2,none⟩=some (.slice Aa f.atoms.length ca)∧w9.cell? ⟨bk,3,none⟩=some (.slice Ac f.clauses.length cc):=⟨(HBK5.out.keep HV2.out.2).cell 0,(HBK5.out.keep HV2.out.2).cell 1,(HBK5.out.keep HV2.out.2).cell 2,(HBK5.out.keep HV2.out.2).cell 3⟩))
 clear s0 s1 s2 q0 q1 q2 q3 z1 z2 z3 z4 hq hr
 obtain ⟨q0,q1,q2,q3⟩:=s3
 have HB9:Hid (Below w.heap.size w w9):=Lib.hid ((HB3.out.trans ((HB4.out.trans (HB5.out.mono HB4.out.size)).mono HB3.out.size)).trans (HV2.out.2.mono ((HB3.out.trans ((HB4.out.trans (HB5.out.mono HB4.out.size)).mono HB3.out.size)).size)))
 have HF9:=Lib.hid (HF5.out.keep HV2.out.2)
 have HI9:=Lib.hid (HI5.out.keep HV2.out.2)
 have HW2:=Lib.hid HV2.out.1.ints
 have HW1:=Lib.hid (HV1.out.ints.keep HV2.out.2)
 obtain ⟨A1,c1,hv1⟩:=owns_slice HV1.out.1
 subst hv1
 have HBK9:=Lib.hid (HBK5.out.keep HV2.out.2)
 clear HX6 HX1 HV1 HV2 HC2 HF5 HBK5 HB3 HB4 HB5 HO5 HI5
 cases o1 with
 | none =>
  obtain rfl:=HK1.out.none_grow HK2.out (by simp)
  clear HK1 HK2
  simp only [Option.isSome_none,Option.getD_none,List.length_nil] at *
  go_wp2_with fail
  refine (awake34 _).mono ?_
  rintro e w8 ⟨rfl,hb8⟩
  have HB8:=Lib.hid (HB9.out.trans (hb8.mono HB9.out.size))
  clear hb8
  go_wp2_with fail
  go_ret
  exact ⟨rfl,HB8.out⟩
 | some a1 =>
  have hal:=HK1.out.len
  obtain ⟨o3,hk3,hc3, -⟩:=prop_both (f:=f) (SmallF.valid HSM.out) hB (SmallF.lens HSM.out) a1 (by omega)
  obtain rfl:=HK1.out.again hk3
  have HC3:=Lib.hid hc3
  clear hk3 hc3
  simp only [Option.isSome_some,Option.getD_some] at *
  go_wp2_with fail
  refine (HC3.out w9 _ _ HF9.out HW1.out).mono ?_
  rintro e w10 ⟨v3,rfl,ho3,hb10⟩
  have HV3:Hid (Ints w10 v3 a1):=Lib.hid ho3.ints
  have HW10:=Lib.hid (HW1.out.keep hb10)
  have HB10:=Lib.hid (HB9.out.trans (hb10.mono HB9.out.size))
  have HI10:=Lib.hid (HI9.out.keep hb10)
  have HW20:=Lib.hid (HW2.out.keep hb10)
  have hin:=HK1.out.has _ (List.mem_singleton.2 rfl)
  have HIN:=Lib.hid hin
  have HGR:Hid (∀b2,o2=some b2→∀l∈a1,l∈b2):=Lib.hid fun b2 h2=>HK1.out.grow (h2 ▸ HK2.out) (by simp)
  clear ho3 hb10 q0 q1 q2 q3 hin HK1 HK2 HC3 HF9 HBK9 HI9 HW1 HW2 HB9
  go_wp2_with fail
  refine (same_any _ _ _ _ _ HW10.out HV3.out).mono ?_
  rintro e w11 ⟨rfl,n7,rfl⟩
  rw [decide_eq_true rfl]
  have HB11:=Lib.hid (below_drewN HB10.out n7)
  have HW11:=Lib.hid (HW10.out.keep (below_drewN (Below.refl _ _) n7))
  have HI11:=Lib.hid (HI10.out.keep (below_drewN (Below.refl _ _) n7))
  have HW21:=Lib.hid (HW20.out.keep (below_drewN (Below.refl _ _) n7))
  generalize w10.drewN n7=w11 at *
  clear HB10 HW10 HI10 HW20 HV3
  obtain ⟨A',c',hv', -, -, -,hrd⟩:=HI11.out
  injection hv' with e1 e9 e3
  clear e9
  subst e1 e3
  obtain ⟨b1,o1,e1,hb1,qz⟩:=hrd.int (k:=0) rfl
  injection e1 with e1
  injection e1 with e1 e2
  subst e1 e2
  simp only [Nat.zero_add] at qz
  clear hrd hb1
  go_wp2_with fail
  refine (contains34 _ _ _ _ HW11.out).mono ?_
  rintro e w12 ⟨rfl,rfl⟩
  rw [decide_eq_true HIN.out]
  clear qz
  cases o2 with
  | none =>
   go_wp2_with fail
   go_loop [83] (fun i=>∃k:Nat,k≤a1.length∧i = .int .i64 (k:Int)) (fun i=>a1.length-(intOf i).toNat)
   case atStart=>exact ⟨0,Nat.zero_le _,rfl⟩
   case round =>
    obtain ⟨k,hk,rfl⟩:=hrel
    by_cases hlt:k<a1.length
    ·obtain ⟨z,hz⟩:∃z,a1[k]? = some z:=⟨_,List.getElem?_eq_getElem hlt⟩
     obtain ⟨A',c',hv', -, -, -,hrd⟩:=HW11.out
     injection hv' with e1 e9 e3
     clear e9
     subst e1 e3
     obtain ⟨b1,o1,rfl,hb1,qz⟩:=hrd.int hz
     have HM:=Lib.hid (List.mem_of_getElem? hz)
     have HLT:=Lib.hid hlt
     clear hz hrd hb1
     go_wp2_with fail
     have hlt:=HLT.out
     go_round
     case rel=>exact ⟨k+1,by omega,by go_num⟩
     case measure=>simp [intOf];omega
    ·obtain rfl:k=a1.length:=by omega
     have yk:¬(a1.length<a1.length):=by omega
     go_wp2_with fail
     refine (awake34 _).mono ?_
     rintro e w13 ⟨rfl,hb13⟩
     have HB13:=Lib.hid (HB11.out.trans (hb13.mono HB11.out.size))
     clear hb13
     go_wp2_with fail
     go_ret
     exact ⟨rfl,HB13.out⟩
  | some b2 =>
   simp only [Option.isSome_some,Option.getD_some] at *
   go_wp2_with fail
   go_loop [83] (fun i=>∃k:Nat,k≤a1.length∧i = .int .i64 (k:Int)) (fun i=>a1.length-(intOf i).toNat)
   case atStart=>exact ⟨0,Nat.zero_le _,rfl⟩
   case round =>
    obtain ⟨k,hk,rfl⟩:=hrel
    by_cases hlt:k<a1.length
    ·obtain ⟨z,hz⟩:∃z,a1[k]? = some z:=⟨_,List.getElem?_eq_getElem hlt⟩
     obtain ⟨A',c',hv', -, -, -,hrd⟩:=HW11.out
     injection hv' with e1 e9 e3
     clear e9
     subst e1 e3
     obtain ⟨b1,o1,rfl,hb1,qz⟩:=hrd.int hz
     have HM:=Lib.hid (List.mem_of_getElem? hz)
     have HLT:=Lib.hid hlt
     clear hz hrd hb1
     go_wp2_with fail
     refine (contains34 _ _ _ _ HW21.out).mono ?_
     rintro e w12 ⟨rfl,rfl⟩
     rw [decide_eq_true (HGR.out _ rfl _ HM.out)]
     go_wp2_with fail
     have hlt:=HLT.out
     go_round
     case rel=>exact ⟨k+1,by omega,by go_num⟩
     case measure=>simp [intOf];omega
    ·obtain rfl:k=a1.length:=by omega
     have yk:¬(a1.length<a1.length):=by omega
     go_wp2_with fail
     refine (awake34 _).mono ?_
     rintro e w13 ⟨rfl,hb13⟩
     have HB13:=Lib.hid (HB11.out.trans (hb13.mono HB11.out.size))
     clear hb13
     go_wp2_with fail
     go_ret
     exact ⟨rfl,HB13.out⟩
end Go.Proofs.Yticieifacalocaa
