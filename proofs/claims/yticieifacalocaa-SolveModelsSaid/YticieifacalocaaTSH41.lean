/- SolPrp -/
import Derived.Test.YticieifacalocaaTSH29
import Derived.Test.YticieifacalocaaTSH40
namespace Go.Proofs.Yticieifacalocaa
open Go.RowKit
def gN (B:Nat):List Int→Eng→Option Eng
 | [],e=>some e
 | l::r,e=>if l=0∨l < -(B:Int)∨(B:Int)<l∨tv e.val l<0 then none else gN B r (if tv e.val l=0 then e.assign l (-1) else e)
def gU:Nat→List Int→List Int
 | _,[]=>[]
 | i,y::r=>(if y=1 then [(i:Int)+1] else if y = -1 then [-((i:Int)+1)] else [])++gU (i+1) r
theorem litsF_i64:∀(val:List Int) (i:Nat),i+val.length≤2000→∀x∈gU i val,I64 x:=by
 intro val
 induction val with
 | nil=>intro i _ x hx;simp [gU] at hx
 | cons y r ih =>
  intro i hi x hx
  rw [qJ] at hi
  rw [gU,zK] at hx
  rcases hx with hx|hx
  ·split at hx
   ·simp at hx;subst hx;constructor<;>omega
   ·split at hx
    ·simp at hx;subst hx;constructor<;>omega
    ·simp at hx
  ·exact ih _ (by omega) x hx
theorem own_base {w:World} {B B':Nat} {e:TypeId} {sz n:Nat} {v:Value} {xs:List Value} (h:w.ownsRow B e sz v n xs) (hB:B'≤B):w.ownsRow B' e sz v n xs:=by
 refine ⟨h.1,?_⟩
 rcases h.2 with h0|⟨g,cap,cur,h1,h2,h3⟩
 ·exact .inl h0
 ·exact .inr ⟨g,cap,cur,h1,qA hB h2,h3⟩
theorem rL {k:Nat} (h:k≤1024):IntKind.i64.wrap ((k:Int)+1)=(k:Int)+1∧IntKind.i64.wrap (-((k:Int)+1)) = -((k:Int)+1):=by
 constructor<;>(rw [qS];omega)
def outP (B fuel:Nat) (gs:List (List Int)) (ls:List Int):Option (Option (List Int)) :=
 match gM wJ 0 gs (Eng.new B) with
 | none=>none
 | some (e1,c) =>
  if 0≤c then some none
  else match gN B ls e1 with
   | none=>some none
   | some e2 =>
    match aQ fuel e2 with
    | none=>none
    | some (e3,c2)=>if 0≤c2 then some none else some (some (gU 0 e3.val))
def PrpRet (w:World) (o:Option (List Int)) (en:Ending) (w':World):Prop :=
 ∃v,en = .returned (.tuple #[v, .bool o.isSome])∧Own w' w.heap.size v (o.getD [])∧Below w.heap.size w w'
theorem oV {e2:Eng} {r:Int}:∀(gs:List (List Int)) (k:Nat) (e:Eng),Ld k e→gM wJ k gs e=some (e2,r)→Ld (k+gs.length) e2∧e2.val.length=e.val.length:=by
 intro gs
 induction gs with
 | nil =>
  intro k e h hq
  rw [gM] at hq
  injection hq with hq
  injection hq with h1 _
  subst h1
  exact ⟨h,rfl⟩
 | cons g gs ih =>
  intro k e h hq
  have up:∀{e':Eng},Ld (k+1) e'→Ld (k+(g::gs).length) e':=fun {e'} h'=>⟨by have:=h'.c;simp;omega,by have:=h'.i;simp;omega,by have:=h'.t;simp;omega,fun l=>by have:=h'.w l;simp;omega⟩
  have e0:k+(g::gs).length=k+1+gs.length:=by simp;omega
  cases hn:wJ g with
  | none =>
   rw [gM,hn] at hq
   rw [e0]
   exact ih _ _ h.skip hq
  | some cl =>
   obtain ⟨-,hc⟩:=pO hq hn _ rfl
   rcases hc with ⟨-,h2, -⟩|⟨l, -,hc⟩|⟨-,h2⟩
   ·subst h2;exact ⟨up (h.one _ _),rfl⟩
   ·rcases hc with ⟨-,h2, -⟩|⟨-,h2⟩|⟨-,h2⟩
    ·subst h2;exact ⟨up (h.one _ _),rfl⟩
    ·rw [e0];obtain ⟨a1,a2⟩:=ih _ _ (h.asg _ _ _ _) h2;exact ⟨a1,by rw [a2];simp [Eng.assign]⟩
    ·rw [e0];obtain ⟨a1,a2⟩:=ih _ _ (h.one _ _) h2;exact ⟨a1,a2⟩
   ·rw [e0];obtain ⟨a1,a2⟩:=ih _ _ (h.att _ _ _) h2;exact ⟨a1,a2⟩
section
variable {κ κ':Kap} {w w':World} {g g':Nat} {t t':TypeId} {rest rest':List Value} {x:Int} {e:Eng} {V:EV}
theorem EngM.move (h:EngM κ w g t rest x e V) (f:Fr κ κ' w w' (fun s=>s = .slv)) (hb:HB κ' w' .slv g' t' (V.cells e.val.length e.hd++rest').toArray):EngM κ' w' g' t' rest' x e V :=
 ⟨hb,h.cls.fr f (by simp),fun c u hu=>(h.cl c u hu).fr f (by simp),h.inp.fr f (by simp),h.val.fr f (by simp),h.rsn.fr f (by simp),h.lvl.fr f (by simp),h.rl,h.ll,h.tr.fr f (by simp),h.st.fr f (by simp),h.wat.fr f (by simp),fun l hl h0=>(h.wt l hl h0).fr f (by simp),h.B,h.v3⟩
end
set_option maxRecDepth 100000 in
set_option maxHeartbeats 8000000 in
theorem lC {f:Form} {fv lv:Value} {ls:List Int} {w:World} {B fuel:Nat} {o:Option (List Int)} (hf:IsForm w fv f) (hls:Ints w lv ls) (hB:B≤1024) (hb:f.bools=(B:Int)) (hv:validF f=0) (hgl:f.clauses.length≤1000000) (hgx:∀xs∈f.clauses,xs.length≤1000000)
  (hll:ls.length≤1000000) (hq:outP B fuel f.clauses ls=some o):Calls Try.prog 25 #[fv,lv] w (PrpRet w o):=by
 obtain ⟨iI,hiI,hzI0,hzI1,hzI2⟩:=qD wV
 obtain ⟨Al,cl,rfl,hl1,hl2,hl3,hl4⟩:=hls
 have hf2:=hf
 obtain ⟨av,cv,rfl,hi1,hi2,had,hmt⟩:=hf
 rw [hb] at *
 have HM:=Lib.hid hmt
 have HL:=Lib.hid (And.intro hl3 hl4)
 have HGL:=Lib.hid (And.intro hgl hgx)
 have HLL:=Lib.hid hll
 have HQ:=Lib.hid hq
 have B1:Below w.heap.size w (w.alloc (.cells #[.int .i64 f.ints, .int .i64 (B:Int),av,cv] 29)):=(zR _ _).alloc (Nat.le_refl _) _
 have HV:Hid (Calls Try.prog 35 #[.agg #[.int .i64 f.ints, .int .i64 (B:Int),av,cv]] (w.alloc (.cells #[.int .i64 f.ints, .int .i64 (B:Int),av,cv] 29)) fun e w'=>e = .returned (.int .i64 0)∧Below (w.alloc (.cells #[.int .i64 f.ints, .int .i64 (B:Int),av,cv] 29)).heap.size (w.alloc (.cells #[.int .i64 f.ints, .int .i64 (B:Int),av,cv] 29)) w'):=by
  have:=iX f (w.alloc (.cells #[.int .i64 f.ints, .int .i64 (B:Int),av,cv] 29)) _ (hf2.keep B1)
  rw [hv] at this
  exact Lib.hid this
 have HB1:=Lib.hid B1
 have HBX:Hid (Blk (w.alloc (.cells #[.int .i64 f.ints, .int .i64 (B:Int),av,cv] 29)) w.heap.size 29 #[.int .i64 f.ints, .int .i64 (B:Int),av,cv]):=Lib.hid (Blk.new w _ _)
 unfold maxLen at hl2
 clear had hmt hi1 hi2 hf2 hl3 hl4 hgl hgx hll hq B1 hv hb
 go_enter Try.func25,Try.ntmps25
 go_wp2_with fail
 refine HV.out.mono ?_
 rintro en W ⟨rfl,hb1⟩
 have HB2:Hid (Below w.heap.size w W):=Lib.hid (HB1.out.trans (hb1.mono (by simp)))
 have hbx:=HBX.out.keep hb1
 have HSW:Hid (w.heap.size<W.heap.size):=Lib.hid (by have:=hb1.size;simp at this;omega)
 have HBX2:=Lib.hid hbx
 clear hb1 HV HBX HB1
 have q0:=hbx.cell 0
 have q1:=hbx.cell 1
 have q2:=hbx.cell 2
 have q3:=hbx.cell 3
 simp only [zA,zB,zC] at q0 q1 q2 q3
 clear hbx
 go_wp2_with fail
 refine (aR hB f.ints av cv W).mono ?_
 rintro en W2 ⟨κ,bt,V,rfl,hE,hun,hb2,hbt⟩
 have hbx:=HBX2.out.keep (hb2.mono (Nat.le_refl _))
 have HUN:Hid (∀k,k<W.heap.size→κ k=none):=Lib.hid hun
 have HB3:Hid (Below w.heap.size w W2):=Lib.hid (HB2.out.trans (hb2.mono (uN HSW.out)))
 have HS2:Hid (W.heap.size≤W2.heap.size):=Lib.hid hb2.size
 have HBX3:=Lib.hid hbx
 have HE:=Lib.hid hE
 obtain ⟨A0,c0,h0, -, -⟩:=hE.cls.shape
 obtain ⟨A1,c1,h1, -, -⟩:=hE.inp.shape
 obtain ⟨A6,c6,h6, -, -⟩:=hE.tr.shape
 obtain ⟨A7,c7,h7, -, -⟩:=hE.st.shape
 obtain ⟨vc,vi,vt,vs,gv,gr,gl,bm,us,mv⟩:=V
 simp only at h0 h1 h6 h7
 subst h0 h1 h6 h7
 simp only [EV.cells,qT,xL]
 clear hE hun hb2 hbt hbx q0 q1 q2 q3
 rw [show (Eng.new B).cls.length=0 from rfl,show (Eng.new B).inp.length=0 from rfl,show (Eng.new B).tr.length=0 from rfl,show (Eng.new B).st.length=0 from rfl] at *
 have HE3:Hid (EngM (kset κ W2.heap.size .slv) (W2.alloc (.cells #[.slice A0 0 c0, .slice A1 0 c1, .map (some bm), .slice (some ⟨gv,0,none⟩) B B, .slice (some ⟨gr,0,none⟩) B B, .slice (some ⟨gl,0,none⟩) B B, .slice A6 0 c6, .slice A7 0 c7, .int .i64 0, .nilFunc] 83)) W2.heap.size 83 [.nilFunc] 0 (Eng.new B) ⟨.slice A0 0 c0, .slice A1 0 c1, .slice A6 0 c6, .slice A7 0 c7,gv,gr,gl,bm,us,mv⟩):=by
  refine Lib.hid (HE.out.move (Fr.make κ W2 _ .slv _) ?_)
  have:=HB.new κ W2 .slv #[.slice A0 0 c0, .slice A1 0 c1, .map (some bm), .slice (some ⟨gv,0,none⟩) B B, .slice (some ⟨gr,0,none⟩) B B, .slice (some ⟨gl,0,none⟩) B B, .slice A6 0 c6, .slice A7 0 c7, .int .i64 0, .nilFunc] 83
  simpa [EV.cells,Eng.new] using this
 have hbx:=HBX3.out.keep ((zR W2.heap.size W2).alloc (Nat.le_refl _) (.cells #[.slice A0 0 c0, .slice A1 0 c1, .map (some bm), .slice (some ⟨gv,0,none⟩) B B, .slice (some ⟨gr,0,none⟩) B B, .slice (some ⟨gl,0,none⟩) B B, .slice A6 0 c6, .slice A7 0 c7, .int .i64 0, .nilFunc] 83))
 have HBX4:=Lib.hid hbx
 have HB4:Hid (Below w.heap.size w (W2.alloc (.cells #[.slice A0 0 c0, .slice A1 0 c1, .map (some bm), .slice (some ⟨gv,0,none⟩) B B, .slice (some ⟨gr,0,none⟩) B B, .slice (some ⟨gl,0,none⟩) B B, .slice A6 0 c6, .slice A7 0 c7, .int .i64 0, .nilFunc] 83))):=Lib.hid (HB3.out.alloc (by have:=HSW.out;have:=HS2.out;omega) _)
 have HU4:Hid (∀k,k<W.heap.size→kset κ W2.heap.size .slv k=none):=Lib.hid fun k hk=>by unfold kset;rw [if_neg (by have:=HS2.out;omega)];exact HUN.out k hk
 clear hbx HE HUN HB3 HBX3
 go_upto_region 4 with fail
 generalize W2.alloc (.cells #[.slice A0 0 c0, .slice A1 0 c1, .map (some bm), .slice (some ⟨gv,0,none⟩) B B, .slice (some ⟨gr,0,none⟩) B B, .slice (some ⟨gl,0,none⟩) B B, .slice A6 0 c6, .slice A7 0 c7, .int .i64 0, .nilFunc] 83)=W4 at *
 generalize kset κ W2.heap.size .slv=κ4 at *
 generalize (⟨.slice A0 0 c0, .slice A1 0 c1, .slice A6 0 c6, .slice A7 0 c7,gv,gr,gl,bm,us,mv⟩:EV)=V4 at *
 generalize W2.heap.size=g at *
 have q0:=HBX4.out.cell 0
 have q1:=HBX4.out.cell 1
 have q2:=HBX4.out.cell 2
 have q3:=HBX4.out.cell 3
 simp only [zA,zB,zC] at q0 q1 q2 q3
 cases hlf:gM wJ 0 f.clauses (Eng.new B) with
 | none =>
  have:=HQ.out
  unfold outP at this
  rw [hlf] at this
  cases this
 | some ec =>
 obtain ⟨e1,c⟩:=ec
 have HLD:=Lib.hid (pD (ints:=f.ints) (bools:=(B:Int)) (av:=av) HE3.out HM.out HGL.out.1 HGL.out.2 HB4.out (fun k hk=>HU4.out k (by have:=HSW.out;omega)) ⟨by simp [Eng.new],by simp [Eng.new],by simp [Eng.new],fun l=>by simp [Eng.new]⟩ hlf)
 have hq:=HQ.out
 unfold outP at hq
 rw [hlf] at hq
 simp only at hq
 have HQ1:=Lib.hid hq
 have HLF:=Lib.hid hlf
 clear hq HQ hlf
 go_wp2_with fail
 refine HLD.out.mono ?_
 rintro en W5 ⟨rfl,κ5,V5,hE,hF⟩
 have HE5:=Lib.hid hE
 have HF5:=Lib.hid hF
 clear hE hF HLD HE3 q0 q1 q2 q3
 have HB5:Hid (Below w.heap.size w W5):=Lib.hid (HB4.out.trans (HF5.out.below (by have:=HB4.out.size;omega) fun k hk=>HU4.out k (by have:=HSW.out;omega)))
 have HBX5:Hid (Blk W5 w.heap.size 29 #[.int .i64 f.ints, .int .i64 (B:Int),av,cv]):=Lib.hid ((HF5.out.blk w.heap.size HBX4.out.lt fun s e=>by rw [HU4.out _ HSW.out] at e;cases e).trans HBX4.out)
 have HU5:Hid (∀k,k≤w.heap.size→κ5 k=none):=Lib.hid fun k hk=>by rw [HF5.out.ext k (by have:=HBX4.out.lt;omega)];exact HU4.out k (by have:=HSW.out;omega)
 clear HB4 HBX4 HU4 HF5 HB2 HSW HBX2 HS2
 by_cases hc:0≤c
 ·have hq:=HQ1.out
  rw [if_pos hc] at hq
  injection hq with hq
  subst hq
  clear HQ1
  go_wp2_with fail
  go_ret2
  exact ⟨.slice none 0 0,rfl,⟨qE _ _ _ _,by simp⟩,HB5.out⟩
 ·have hq:=HQ1.out
  rw [if_neg hc] at hq
  have HQ2:=Lib.hid hq
  clear hq HQ1
  go_upto_region 7 with fail
  obtain ⟨hld,hvl⟩:=oV _ _ _ ⟨by simp [Eng.new],by simp [Eng.new],by simp [Eng.new],fun l=>by simp [Eng.new]⟩ HLF.out
  have HS0:Hid (EngM κ5 W5 g 83 [.nilFunc] 0 e1 V5∧Fr κ5 κ5 W5 W5 wK∧gN B ls e1=gN B ls e1∧e1.cls.length≤f.clauses.length∧e1.tr.length≤f.clauses.length+0∧e1.val.length=B) :=
   Lib.hid ⟨HE5.out,Fr.refl _ _ _,rfl,by have:=hld.c;omega,by have:=hld.t;omega,by rw [hvl];simp [Eng.new]⟩
  clear hld hvl HLF HE5
  have HREF:Hid (gN B ls e1=none→o=none):=Lib.hid fun h=>by
   have:=HQ2.out
   rw [h] at this
   injection this with this
   exact this.symm
  have yB:IntKind.i64.wrap (-(B:Int)) = -(B:Int):=by rw [qS];omega
  have yl:(ls.length:Int)≤1000000:=by have:=HLL.out;omega
  go_loopw [22] (fun i wr=>∃(k:Nat) (κk:Kap) (ek:Eng) (Vk:EV),k≤ls.length∧i = .int .i64 k∧Hid (EngM κk wr g 83 [.nilFunc] 0 ek Vk∧Fr κ5 κk W5 wr wK∧gN B (ls.drop k) ek=gN B ls e1∧ek.cls.length≤f.clauses.length∧ek.tr.length≤f.clauses.length+k∧ek.val.length=B)) (fun i _=>ls.length-(intOf i).toNat)
  case atStart=>exact ⟨0,κ5,e1,V5,zQ _,rfl,HS0⟩
  case round =>
   clear HS0
   obtain ⟨k,κk,ek,Vk,hk,rfl,HS⟩:=hrel
   have HBk:Hid (Below w.heap.size w wr):=Lib.hid (HB5.out.trans (HS.out.2.1.below HB5.out.size fun k hk=>HU5.out k (by omega)))
   by_cases hlt:k<ls.length
   ·obtain ⟨l,hl⟩:∃l,ls[k]? = some l:=⟨_,List.getElem?_eq_getElem hlt⟩
    have hli:=HL.out.1 l (List.mem_of_getElem? hl)
    obtain ⟨b,off,rfl,hbs,ql⟩:=(HL.out.2).at_ (k:=k) (u := .int .i64 l) (by rw [List.getElem?_map,hl];rfl)
    have ql:wr.cell? ⟨b,off+k,none⟩=some (.int .i64 l):=(HBk.out.cell (p:=⟨b,off+k,none⟩) hbs).trans ql
    have hbx:Blk wr w.heap.size 29 #[.int .i64 f.ints, .int .i64 (B:Int),av,cv]:=(HS.out.2.1.blk w.heap.size HBX5.out.lt fun s e=>by rw [HU5.out _ (Nat.le_refl _)] at e;cases e).trans HBX5.out
    have q1:=hbx.cell 1
    simp only [zA,zB,zC] at q1
    have hdr:ls.drop k=l::ls.drop (k+1):=by
     obtain ⟨h1,h2⟩:=zG.1 hl
     rw [zT h1,h2]
    have y1:(k:Int)<(ls.length:Int):=by omega
    have has:=HS.out.2.2.1
    rw [hdr,gN] at has
    have HAS:=Lib.hid has
    have HHL:=Lib.hid hl
    obtain ⟨i1,i2⟩:=hli
    clear hl hbs hbx hdr has
    by_cases c1:l=0
    ·have HC:=Lib.hid c1
     subst c1
     obtain rfl:=HREF.out (by rw [←HAS.out];exact if_pos (.inl HC.out))
     go_wp2_with fail
     go_ret2
     exact ⟨.slice none 0 0,rfl,⟨qE _ _ _ _,by simp⟩,HBk.out⟩
    by_cases c2:l < -(B:Int)
    ·have HC:=Lib.hid c2
     obtain rfl:=HREF.out (by rw [←HAS.out];exact if_pos (.inr (.inl HC.out)))
     go_wp2_with fail
     go_ret2
     exact ⟨.slice none 0 0,rfl,⟨qE _ _ _ _,by simp⟩,HBk.out⟩
    by_cases c3:(B:Int)<l
    ·have HC:=Lib.hid c3
     obtain rfl:=HREF.out (by rw [←HAS.out];exact if_pos (.inr (.inr (.inl HC.out))))
     go_wp2_with fail
     go_ret2
     exact ⟨.slice none 0 0,rfl,⟨qE _ _ _ _,by simp⟩,HBk.out⟩
    have hlb:litB ek.val.length l=true:=by
     have:=HS.out.2.2.2.2.2
     exact decide_eq_true ⟨c1,by unfold vr;omega⟩
    have HLB:=Lib.hid hlb
    have HT:=Lib.hid (fun d=>dN (HS.out.1.drewN d) hlb)
    clear hlb
    by_cases c4:tv ek.val l<0
    ·have HC:=Lib.hid c4
     obtain rfl:=HREF.out (by rw [←HAS.out];exact if_pos (.inr (.inr (.inr HC.out))))
     generalize tv ek.val l=y at *
     go_wp2_with fail
     refine (HT.out 0).mono ?_
     rintro en W9 ⟨rfl,m,rfl⟩
     go_wp2_with fail
     go_ret2
     exact ⟨.slice none 0 0,rfl,⟨qE _ _ _ _,by simp⟩,HBk.out.trans ⟨rfl,rfl,rfl,Nat.le_refl _,fun _ _=>rfl⟩⟩
    ·have hn:gN B (ls.drop (k+1)) (if tv ek.val l=0 then ek.assign l (-1) else ek)=gN B ls e1:=by
      rw [←HAS.out]
      exact (if_neg (by rintro (h|h|h|h)<;>first|exact c1 h|exact c2 h|exact c3 h|exact c4 h)).symm
     have HN:=Lib.hid hn
     clear hn
     have HTL:=HS.out.2.2.2.2.1
     by_cases c5:tv ek.val l=0
     ·have hn:=HN.out
      rw [if_pos c5] at hn
      have HN2:=Lib.hid hn
      have HA:=Lib.hid (fun m=>gO (r := -1) (HS.out.1.drewN m) HLB.out (by have:=HGL.out.1;have:=HLL.out;unfold LIM;omega))
      clear hn HN HTL
      rw [c5] at HT c4
      clear c4 c5
      go_wp2_with fail
      refine (HT.out 0).mono ?_
      rintro en W9 ⟨rfl,m,rfl⟩
      go_wp2_with fail
      refine (HT.out m).mono ?_
      rintro en W10 ⟨rfl,m2,rfl⟩
      go_wp2_with fail
      refine (HA.out (m+m2)).mono ?_
      rintro en W11 ⟨rfl,κ6,V6,hE,hF, -, -⟩
      have f6:Fr κ5 κ6 W5 W11 wK:=HS.out.2.1.trans ((Fr.drewN κk wr (m+m2) wK).trans (hF.mono fun s hs=>gY hs))
      have HS2:Hid (EngM κ6 W11 g 83 [.nilFunc] 0 (ek.assign l (-1)) V6∧Fr κ5 κ6 W5 W11 wK∧gN B (ls.drop (k+1)) (ek.assign l (-1))=gN B ls e1∧(ek.assign l (-1)).cls.length≤f.clauses.length∧(ek.assign l (-1)).tr.length≤f.clauses.length+(k+1)∧(ek.assign l (-1)).val.length=B) :=
       Lib.hid ⟨hE,f6,HN2.out,HS.out.2.2.2.1,by have:=HS.out.2.2.2.2.1;simp [Eng.assign];omega,by have:=HS.out.2.2.2.2.2;simp [Eng.assign];exact this⟩
      clear hE hF f6 HS HA HT HN2
      go_wp2_with fail
      go_roundw
      case rel=>exact ⟨k+1,κ6,_,V6,by omega,by go_num,HS2⟩
      case measure=>simp [intOf];omega
     ·have hn:=HN.out
      rw [if_neg c5] at hn
      have HN2:=Lib.hid hn
      clear hn HN HTL
      generalize hy:tv ek.val l=y at *
      clear hy
      have hy1:decide (y<0)=false:=by simp;omega
      have hy2:0≤y:=by omega
      have hy3:decide (y=0)=false:=by simpa using c5
      go_wp2_with fail
      refine (HT.out 0).mono ?_
      rintro en W9 ⟨rfl,m,rfl⟩
      go_wp2_with fail
      refine (HT.out m).mono ?_
      rintro en W10 ⟨rfl,m2,rfl⟩
      have HS2:Hid (EngM κk ((wr.drewN m).drewN m2) g 83 [.nilFunc] 0 ek Vk∧Fr κ5 κk W5 ((wr.drewN m).drewN m2) wK∧gN B (ls.drop (k+1)) ek=gN B ls e1∧ek.cls.length≤f.clauses.length∧ek.tr.length≤f.clauses.length+(k+1)∧ek.val.length=B) :=
       Lib.hid ⟨(HS.out.1.drewN m).drewN m2,HS.out.2.1.trans ((Fr.drewN κk wr m wK).trans (Fr.drewN κk _ m2 wK)),HN2.out,HS.out.2.2.2.1,by have:=HS.out.2.2.2.2.1;omega,HS.out.2.2.2.2.2⟩
      generalize (wr.drewN m).drewN m2=W10 at *
      clear HS HT HN2
      go_wp2_with fail
      go_roundw
      case rel=>exact ⟨k+1,κk,ek,Vk,by omega,by go_num,HS2⟩
      case measure=>simp [intOf];omega
   ·have hkl:k=ls.length:=by omega
    subst hkl
    have has:=HS.out.2.2.1
    rw [kV,gN] at has
    have hq:=HQ2.out
    rw [←has] at hq
    simp only at hq
    have y1:¬ls.length<ls.length:=by omega
    cases hpf:aQ fuel ek with
    | none=>rw [hpf] at hq;cases hq
    | some ec2 =>
    obtain ⟨e3,c2⟩:=ec2
    rw [hpf] at hq
    simp only at hq
    have HQ3:=Lib.hid hq
    have HP:=Lib.hid (lD HS.out.1 (by have:=HS.out.2.2.2.1;have:=HGL.out.1;unfold LIM;omega) hpf)
    clear has hq hpf HQ2 HREF hlt
    go_wp2_with fail
    refine HP.out.mono ?_
    rintro en W6 ⟨rfl,κ6,V6,hE,hF⟩
    have HB6:Hid (Below w.heap.size w W6):=Lib.hid (HB5.out.trans ((HS.out.2.1.trans hF).below HB5.out.size fun k hk=>HU5.out k (by omega)))
    have HE6:=Lib.hid hE
    clear hE hF HP HS HBk
    by_cases hc2:0≤c2
    ·have hq:=HQ3.out
     rw [if_pos hc2] at hq
     injection hq with hq
     subst hq
     clear HQ3
     go_wp2_with fail
     go_ret2
     exact ⟨.slice none 0 0,rfl,⟨qE _ _ _ _,by simp⟩,HB6.out⟩
    ·have hq:=HQ3.out
     rw [if_neg hc2] at hq
     injection hq with hq
     subst hq
     clear HQ3
     have q3:=HE6.out.cellE (i:=3) rfl
     go_upto_region 18 with fail
     clear q3
     have HN:=Lib.hid HE6.out.B
     have HVAL:Hid (∀wo:World,Below W6.heap.size W6 wo→∀k,k<e3.val.length→wo.cell? ⟨V6.gv,k,none⟩=some (.int .i8 (e3.val.getD k 0))):=Lib.hid fun wo hb k hk=>(hb.cell (p:=⟨V6.gv,k,none⟩) HE6.out.val.b.lt).trans (HE6.out.valAt hk)
     have HV3:=Lib.hid HE6.out.v3
     clear HE6
     generalize hN:e3.val.length=N at *
     have HNN:=Lib.hid hN
     have yN:N≤1024:=HN.out
     clear hN
     clear HM HL HGL HLL HBX5 HU5 HB5 hl1 hl2 yB yl y1 hc hc2
     go_loopw [9,57] (fun v i wr=>∃(k:Nat) (xs:List Int) (A:Option Addr) (c:Nat),k≤N∧i = .int .i64 k∧v = .slice A xs.length c∧Hid (wr.ownsRow W6.heap.size 3 1 (.slice A xs.length c) xs.length (ci xs)∧Below W6.heap.size W6 wr∧xs++gU k (e3.val.drop k)=gU 0 e3.val∧xs.length≤k)) (fun _ i _=>N-(intOf i).toNat)
     case atStart=>exact ⟨0,[],none,0,zQ _,rfl,rfl,Lib.hid ⟨qE _ _ _ _,zR _ _,rfl,Nat.le_refl _⟩⟩
     case round =>
      obtain ⟨k,xs,A,c,hk,rfl,rfl,HO⟩:=hrel
      by_cases hlt:k<N
      ·have qv:=HVAL.out wr HO.out.2.1 k hlt
       have hdr:e3.val.drop k=e3.val.getD k 0::e3.val.drop (k+1):=by
        rw [zT (by rw [HNN.out];exact hlt),List.getD_eq_getElem?_getD,List.getElem?_eq_getElem (by rw [HNN.out];exact hlt)]
        rfl
       have h3:=HV3.out k
       have hxl:=HO.out.2.2.2
       generalize e3.val.getD k 0=y at *
       have y1:(k:Int)<(N:Int):=by omega
       have y2:=(rL (k:=k) (by omega)).1
       rcases h3 with rfl|rfl|rfl
       ·have HDR:Hid (gU k (e3.val.drop k)=gU (k+1) (e3.val.drop (k+1))):=by refine Lib.hid ?_;rw [hdr,gU];simp
        clear hdr
        have HO2:=Lib.hid (And.intro HO.out.1 (And.intro HO.out.2.1 (And.intro (by rw [←HDR.out];exact HO.out.2.2.1:xs++gU (k+1) (e3.val.drop (k+1))=gU 0 e3.val) (Nat.le_succ_of_le HO.out.2.2.2))))
        clear HO
        go_wp2_with fail
        go_roundw
        case rel=>exact ⟨k+1,xs,A,c,by omega,by go_num,rfl,HO2⟩
        case measure=>simp [intOf];omega
       ·have HDR:Hid (gU k (e3.val.drop k)=((k:Int)+1)::gU (k+1) (e3.val.drop (k+1))):=by refine Lib.hid ?_;rw [hdr,gU];simp
        clear hdr
        go_wp2_with (at_builtin;refine yZ _ rfl _ _ 33 rfl W6.heap.size 3 iI (.int .i64 0) 1 8 Try.underlying33 hiI hzI0 hzI1 hzI2 rfl (by decide) _ _ _ rfl (HO.out.1.alloc _) ⟨wr.heap.size,0,none⟩ 1 1 [.int .i64 ((k:Int)+1)] rfl rfl ?pc1 ?pc2 ?pc3 ?pc4 ?pc5 ?_)
        case pc1 =>
         intro j u hj
         match j,hj with
         | 0,hj=>simp at hj;subst hj;simp [Addr.add]
        case pc2=>intro u hu;simp at hu;subst hu;rfl
        case pc3=>unfold maxLen;omega
        case pc4=>omega
        case pc5=>have:=HO.out.2.1.size;simp;omega
        intro v' w2 hown' hgrow _
        obtain ⟨A2,cap2,hv2⟩:=bK hown'
        subst hv2
        have HO2:Hid (w2.ownsRow W6.heap.size 3 1 (.slice A2 (xs++[(k:Int)+1]).length cap2) (xs++[(k:Int)+1]).length (ci (xs++[(k:Int)+1]))∧Below W6.heap.size W6 w2∧(xs++[(k:Int)+1])++gU (k+1) (e3.val.drop (k+1))=gU 0 e3.val∧(xs++[(k:Int)+1]).length≤k+1):=by
         refine Lib.hid ⟨by rw [cE,zJ];exact hown',(HO.out.2.1.alloc HO.out.2.1.size _).grown hgrow (by have:=HO.out.2.1.size;simp;omega) (fun g hg=>(HO.out.1.lt g hg).1),?_,by simp;exact HO.out.2.2.2⟩
         rw [←HO.out.2.2.1,HDR.out]
         simp
        clear hown' hgrow HO
        go_wp2_with fail
        go_roundw
        case rel=>exact ⟨k+1,xs++[(k:Int)+1],A2,cap2,by omega,by go_num,by simp,HO2⟩
        case measure=>simp [intOf];omega
       ·have y3:=(rL (k:=k) (by omega)).2
        have HDR:Hid (gU k (e3.val.drop k)=(-((k:Int)+1))::gU (k+1) (e3.val.drop (k+1))):=by refine Lib.hid ?_;rw [hdr,gU];simp
        clear hdr
        go_wp2_with (at_builtin;refine yZ _ rfl _ _ 33 rfl W6.heap.size 3 iI (.int .i64 0) 1 8 Try.underlying33 hiI hzI0 hzI1 hzI2 rfl (by decide) _ _ _ rfl (HO.out.1.alloc _) ⟨wr.heap.size,0,none⟩ 1 1 [.int .i64 (-((k:Int)+1))] rfl rfl ?nc1 ?nc2 ?nc3 ?nc4 ?nc5 ?_)
        case nc1 =>
         intro j u hj
         match j,hj with
         | 0,hj=>simp at hj;subst hj;simp [Addr.add]
        case nc2=>intro u hu;simp at hu;subst hu;rfl
        case nc3=>clear y3;unfold maxLen;omega
        case nc4=>clear y3;omega
        case nc5=>clear y3;have:=HO.out.2.1.size;simp;omega
        intro v' w2 hown' hgrow _
        clear y3
        obtain ⟨A2,cap2,hv2⟩:=bK hown'
        subst hv2
        have HO2:Hid (w2.ownsRow W6.heap.size 3 1 (.slice A2 (xs++[-((k:Int)+1)]).length cap2) (xs++[-((k:Int)+1)]).length (ci (xs++[-((k:Int)+1)]))∧Below W6.heap.size W6 w2∧(xs++[-((k:Int)+1)])++gU (k+1) (e3.val.drop (k+1))=gU 0 e3.val∧(xs++[-((k:Int)+1)]).length≤k+1):=by
         refine Lib.hid ⟨by rw [cE,zJ];exact hown',(HO.out.2.1.alloc HO.out.2.1.size _).grown hgrow (by have:=HO.out.2.1.size;simp;omega) (fun g hg=>(HO.out.1.lt g hg).1),?_,by simp;exact HO.out.2.2.2⟩
         rw [←HO.out.2.2.1,HDR.out]
         simp
        clear hown' hgrow HO
        go_wp2_with fail
        go_roundw
        case rel=>exact ⟨k+1,xs++[-((k:Int)+1)],A2,cap2,by omega,by go_num,by simp,HO2⟩
        case measure=>simp [intOf];omega
      ·have hkN:k=N:=by omega
       subst hkN
       have y1:¬k<k:=by omega
       have hx:xs=gU 0 e3.val:=by
        have:=HO.out.2.2.1
        rw [qY (by rw [HNN.out];exact Nat.le_refl _)] at this
        simpa [gU] using this
       have HX:=Lib.hid hx
       clear hx hlt
       go_wp2_with fail
       go_ret2
       refine ⟨_,rfl,⟨?_,?_⟩,HB6.out.trans (HO.out.2.1.mono HB6.out.size)⟩
       ·have:=own_base HO.out.1 HB6.out.size
        simp only [kE,←HX.out]
        exact this
       ·exact litsF_i64 _ _ (by rw [HNN.out];omega)
end Go.Proofs.Yticieifacalocaa
