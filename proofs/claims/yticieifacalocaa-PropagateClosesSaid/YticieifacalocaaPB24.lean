/- PrpLaw -/
import Derived.Test.YticieifacalocaaPB14
import Derived.Test.YticieifacalocaaPB23
namespace Go.Proofs.Yticieifacalocaa
structure Closed (B:Nat) (gs:List (List Int)) (ls:List Int) (M:Int→Prop):Prop where
 rng:∀l,M l→litB B l=true
 two:∀l,M l→¬M (-l)
 ls:∀l∈ls,M l
 cl:∀g∈gs,(∃x∈g,M x)∨∃x∈g,∃y∈g,x≠y∧¬M (-x)∧¬M (-y)
def TrueIn (B:Nat) (val:List Int) (l:Int):Prop:=litB B l=true∧tv val l=1
def PrpOk (B:Nat) (gs:List (List Int)) (ls:List Int):Option (List Int)→Prop
 | none=>∀M,¬Closed B gs ls M
 | some out=>∃val:List Int,val.length=B∧(∀i,val.getD i 0=0∨val.getD i 0=1∨val.getD i 0 = -1)∧out=litsF 0 val∧Closed B gs ls (TrueIn B val)∧∀M,Closed B gs ls M→∀l,TrueIn B val l→M l
theorem tv_pos {val:List Int} (v:Nat):tv val ((v:Int)+1)=val.getD v 0:=by
 unfold tv vr
 rw [if_neg (by omega),show ((v:Int)+1).natAbs-1=v by omega]
theorem tv_neg1 {val:List Int} (v:Nat):tv val (-((v:Int)+1)) = -(val.getD v 0):=by
 unfold tv vr
 rw [if_pos (by omega),show (-((v:Int)+1)).natAbs-1=v by omega]
theorem litB_pos {B v:Nat} (h:v<B):litB B ((v:Int)+1)=true:=by rw [litB_iff];unfold vr;omega
theorem litB_neg1 {B v:Nat} (h:v<B):litB B (-((v:Int)+1))=true:=by rw [litB_iff];unfold vr;omega
theorem PrpOk.uniq {B:Nat} {gs:List (List Int)} {ls:List Int} {a b:Option (List Int)} (ha:PrpOk B gs ls a) (hb:PrpOk B gs ls b):a=b:=by
 cases a with
 | none =>
  cases b with
  | none=>rfl
  | some b=>obtain ⟨val, -, -, -,h, -⟩:=hb;exact absurd h (ha _)
 | some a =>
  cases b with
  | none=>obtain ⟨val, -, -, -,h, -⟩:=ha;exact absurd h (hb _)
  | some b =>
   obtain ⟨v1,a1,a2,a3,a4,a5⟩:=ha
   obtain ⟨v2,b1,b2,b3,b4,b5⟩:=hb
   have he:v1=v2:=by
    refine List.ext_getElem (by rw [a1,b1]) fun i h1 h2 => ?_
    have g1:v1.getD i 0=v1[i]:=by rw [List.getD_eq_getElem?_getD,List.getElem?_eq_getElem h1];rfl
    have g2:v2.getD i 0=v2[i]:=by rw [List.getD_eq_getElem?_getD,List.getElem?_eq_getElem h2];rfl
    have hi:i<B:=by omega
    have k1:=fun h=>a5 _ b4 ((i:Int)+1) ⟨litB_pos hi,by rw [tv_pos];exact h⟩
    have k2:=fun h=>a5 _ b4 (-((i:Int)+1)) ⟨litB_neg1 hi,by rw [tv_neg1];exact h⟩
    have k3:=fun h=>b5 _ a4 ((i:Int)+1) ⟨litB_pos hi,by rw [tv_pos];exact h⟩
    have k4:=fun h=>b5 _ a4 (-((i:Int)+1)) ⟨litB_neg1 hi,by rw [tv_neg1];exact h⟩
    simp only [TrueIn,tv_pos,tv_neg1] at k1 k2 k3 k4
    rw [←g1,←g2]
    have:=a2 i
    have:=b2 i
    by_cases c1:v1.getD i 0=1
    ·rw [c1,(k1 c1).2]
    ·by_cases c2:v1.getD i 0 = -1
     ·have:=(k2 (by omega)).2;omega
     ·by_cases c3:v2.getD i 0=1
      ·have:=(k3 c3).2;omega
      ·by_cases c4:v2.getD i 0 = -1
       ·have:=(k4 (by omega)).2;omega
       ·omega
   rw [a3,b3,he]
section
variable {f:Form} {B:Nat} {gs:List (List Int)} {ls:List Int} {M:Int→Prop} {e e2:Eng} {h:Nat}
theorem Closed.unit (hM:Closed B gs ls M) {g:List Int} (hg:g∈gs) {l:Int} (h:∀x∈g,x≠l→M (-x)):M l:=by
 have nx:∀x,M (-x)→¬M x:=fun x h1 h2=>hM.two _ h2 h1
 rcases hM.cl g hg with ⟨x,hx,hm⟩|⟨x,hx,y,hy,hne,h1,h2⟩
 ·by_cases e:x=l
  ·rw [←e];exact hm
  ·exact absurd hm (nx x (h x hx e))
 ·by_cases e:x=l
  ·exact absurd (h y hy (fun e2=>hne (e.trans e2.symm))) h2
  ·exact absurd (h x hx e) h1
theorem Closed.conf (hM:Closed B gs ls M) {g:List Int} (hg:g∈gs) (h:∀x∈g,M (-x)):False:=by
 rcases hM.cl g hg with ⟨x,hx,hm⟩|⟨x,hx,y,hy,hne,h1,h2⟩
 ·exact hM.two _ hm (h x hx)
 ·exact h1 (h x hx)
structure PI (f:Form) (B:Nat) (gs:List (List Int)) (e:Eng) (h:Nat):Prop where
 t:TrI B e
 c:ClI B e
 w:WtI e e.wat h
 st:e.st=[]
 ip:∀c,c<e.cls.length→∃g∈gs,∀z,z∈g↔z∈e.cl c
 ii:InI (f.with gs) e
theorem PI.unit (hp:PI f B gs e h) (hM:Closed B gs ls M) {c:Nat} (hc:c<e.cls.length) {l:Int} (hx:∀x∈e.cl c,x≠l→M (-x)):M l:=by
 obtain ⟨g,hg,hz⟩:=hp.ip c hc
 exact hM.unit hg fun x hx2 hne=>hx x ((hz x).1 hx2) hne
theorem PI.conf (hp:PI f B gs e h) (hM:Closed B gs ls M) {c:Nat} (hc:c<e.cls.length) (hx:∀x∈e.cl c,M (-x)):False:=by
 obtain ⟨g,hg,hz⟩:=hp.ip c hc
 exact hM.conf hg fun x hx2=>hx x ((hz x).1 hx2)
theorem PI.sound (hp:PI f B gs e h) (hM:Closed B gs ls M) (hs:∀l∈e.tr,M l) (hg:Grow e e2):∀l∈e2.tr,M l:=by
 have key:∀(n p:Nat) (l:Int),p<n→e2.tr[p]? = some l→M l:=by
  intro n
  induction n with
  | zero=>intro p l hlt;omega
  | succ n ih =>
   intro p l hlt hl
   by_cases hb:p<e.tr.length
   ·obtain ⟨m,hm⟩:=hg.tr
    rw [hm,List.getElem?_append_left hb] at hl
    exact hs l (List.mem_of_getElem? hl)
   ·obtain ⟨-,c, -,hc, -,hx⟩:=hg.new p l (by omega) hl
    refine hp.unit hM hc fun x hx1 hne => ?_
    obtain ⟨q,hq⟩:=List.mem_iff_getElem?.1 (hx x hx1 hne)
    rw [List.getElem?_take] at hq
    split at hq
    ·exact ih q _ (by omega) hq
    ·cases hq
 intro l hl
 obtain ⟨p,hp2⟩:=List.mem_iff_getElem?.1 hl
 exact key (p+1) p l (by omega) hp2
theorem PI.grow (hp:PI f B gs e h) (hg:Grow e e2) (ht:TrI B e2) (hat:∀d,d∈e.wat (e.g0 d)→d∈e2.wat (e2.g0 d)) {k:Nat} (hw:WtI e2 e2.wat k):PI f B gs e2 k:=by
 refine ⟨ht,hg.cli hp.c,hw,hg.st.trans hp.st,fun c hc => ?_,fun g hgm => ?_⟩
 ·obtain ⟨g,h1,h2⟩:=hp.ip c (by rw [←hg.n];exact hc)
  exact ⟨g,h1,fun z=>(h2 z).trans hg.mem.symm⟩
 ·rcases hp.ii g hgm with h|⟨c,h1,h2,h3⟩
  ·exact .inl h
  ·refine .inr ⟨c,by rw [hg.n];exact h1,by rw [hg.nmc];exact h2,?_⟩
   rcases h3 with ⟨h3,h4⟩|⟨l,h3,h4,h5⟩
   ·exact .inl ⟨by rw [(hg.perm c).length_eq];exact h3,hat c h4⟩
   ·refine .inr ⟨l,?_,hg.sub h4,fun s hs => ?_⟩
    ·have:=hg.perm c
     rw [h3] at this
     exact List.perm_singleton.1 this
    ·rw [hg.st,hp.st] at hs;simp at hs
theorem PI.assume (hp:PI f B gs e 0) {l:Int} (hl:litB B l=true) (h0:tv e.val l=0):PI f B gs (e.assign l (-1)) 0:=by
 refine ⟨hp.t.assign hl h0,hp.c,⟨hp.w.w1,fun d hd=>⟨fun hm=>by simp at hm,fun hm=>by simp at hm⟩,hp.w.w4⟩,hp.st,hp.ip,fun g hgm => ?_⟩
 rcases hp.ii g hgm with h|⟨c,h1,h2,h3⟩
 ·exact .inl h
 ·refine .inr ⟨c,h1,h2,?_⟩
  rcases h3 with h3|⟨l2,h3,h4,h5⟩
  ·exact .inl h3
  ·exact .inr ⟨l2,h3,List.mem_append_left _ h4,fun s hs=>by have hs2:s∈e.st:=hs;rw [hp.st] at hs2;simp at hs2⟩
theorem assumeF_ok:∀(ls:List Int) (e:Eng),PI f B gs e 0→e.hd=0 →
  (assumeF B ls e=none∧∀(all:List Int) (M:Int→Prop),Closed B gs all M→(∀l∈ls,l∈all)→(∀l∈e.tr,M l)→False) ∨
  ∃e2,assumeF B ls e=some e2∧PI f B gs e2 0∧e2.hd=0∧e2.cls.length=e.cls.length∧(∀l∈e.tr,l∈e2.tr)∧(∀l∈ls,l∈e2.tr)∧∀l∈e2.tr,l∈e.tr∨l∈ls:=by
 intro ls
 induction ls with
 | nil=>intro e hp hh;exact .inr ⟨e,rfl,hp,hh,rfl,fun _ h=>h,by simp,fun l h => .inl h⟩
 | cons l r ih =>
  intro e hp hh
  rw [assumeF]
  by_cases hb:litB B l=true
  ·obtain ⟨l0,l1⟩:=litB_iff.1 hb
   have hr:¬(l=0∨l < -(B:Int)∨(B:Int)<l):=by unfold vr at l1;omega
   have h3:=hp.t.three l
   by_cases h1:tv e.val l<0
   ·rw [if_pos (.inr (.inr (.inr h1)))]
    refine .inl ⟨rfl,fun all M hM hal htr => ?_⟩
    have:=htr _ ((hp.t.false_ hb).1 (by omega))
    exact hM.two _ (hM.ls l (hal l (by simp))) this
   ·rw [if_neg (by rintro (h|h|h|h)<;>first|exact hr (.inl h)|exact hr (.inr (.inl h))|exact hr (.inr (.inr h))|exact h1 h)]
    by_cases h0:tv e.val l=0
    ·rw [if_pos h0]
     have htr:(e.assign l (-1)).tr=e.tr++[l]:=rfl
     rcases ih _ (hp.assume hb h0) hh with ⟨a1,a2⟩|⟨e2,a1,a2,a3,a4,a5,a6,a7⟩
     ·refine .inl ⟨a1,fun all M hM hal ht=>a2 all M hM (fun x hx=>hal x (by simp [hx])) fun x hx => ?_⟩
      rw [htr] at hx
      rcases List.mem_append.1 hx with hx|hx
      ·exact ht x hx
      ·rw [List.mem_singleton] at hx;subst hx;exact hM.ls x (hal x (by simp))
     ·refine .inr ⟨e2,a1,a2,a3,a4,fun x hx=>a5 x (by rw [htr];simp [hx]),fun x hx => ?_,fun x hx => ?_⟩
      ·rcases List.mem_cons.1 hx with rfl|hx
       ·exact a5 x (by rw [htr];simp)
       ·exact a6 x hx
      ·rcases a7 x hx with h|h
       ·rw [htr] at h
        rcases List.mem_append.1 h with h|h
        ·exact .inl h
        ·rw [List.mem_singleton] at h;subst h;exact .inr (by simp)
       ·exact .inr (by simp [h])
    ·rw [if_neg h0]
     have hl:l∈e.tr:=(hp.t.tr l hb).1 (by omega)
     rcases ih _ hp hh with ⟨a1,a2⟩|⟨e2,a1,a2,a3,a4,a5,a6,a7⟩
     ·exact .inl ⟨a1,fun all M hM hal ht=>a2 all M hM (fun x hx=>hal x (by simp [hx])) ht⟩
     ·refine .inr ⟨e2,a1,a2,a3,a4,a5,fun x hx => ?_,fun x hx => ?_⟩
      ·rcases List.mem_cons.1 hx with rfl|hx
       ·exact a5 x hl
       ·exact a6 x hx
      ·rcases a7 x hx with h|h
       ·exact .inl h
       ·exact .inr (by simp [h])
  ·have hr:l=0∨l < -(B:Int)∨(B:Int)<l:=by
    by_cases h:l=0
    ·exact .inl h
    ·right
     have:¬(l≠0∧vr l<B):=fun h2=>hb (litB_iff.2 h2)
     unfold vr at this
     omega
   rw [if_pos (by rcases hr with h|h|h;exact .inl h;exact .inr (.inl h);exact .inr (.inr (.inl h)))]
   exact .inl ⟨rfl,fun all M hM hal _=>hb (hM.rng l (hM.ls l (hal l (by simp))))⟩
structure PEnd (f:Form) (B:Nat) (gs:List (List Int)) (ls:List Int) (e2:Eng) (r:Int):Prop where
 no:0≤r→∀M,¬Closed B gs ls M
 yes:r<0→PI f B gs e2 e2.tr.length∧∀M,Closed B gs ls M→∀l∈e2.tr,M l
theorem propF_ok (hB : B < LIM) : ∀ (k : Nat) (e : Eng), B < e.hd + k → PI f B gs e e.hd → e.hd ≤ e.tr.length → e.cls.length < LIM → (∀ M, Closed B gs ls M → ∀ l ∈ e.tr, M l) →
    ∃ e2 r, propF k e = some (e2, r) ∧ PEnd f B gs ls e2 r ∧ ∀ l ∈ e.tr, l ∈ e2.tr := by
  intro k
  induction k with
  | zero => intro e hk hp hh _ _; have := hp.t.len; omega
  | succ k ih =>
    intro e hk hp hh hlim hs
    rw [propF]
    cases hlit : e.tr[e.hd]? with
    | none =>
      have hge : e.tr.length ≤ e.hd := by rw [List.getElem?_eq_none_iff] at hlit; exact hlit
      have he : e.hd = e.tr.length := by omega
      exact ⟨e, -1, rfl, ⟨fun h => by omega, fun _ => ⟨by rw [← he]; exact hp, hs⟩⟩, fun _ h => h⟩
    | some lit =>
      have hlt := (List.getElem?_eq_some_iff.1 hlit).1
      have ht := hp.t
      have hl0 := ht.lits lit (List.mem_of_getElem? hlit)
      have hl : litB B (-lit) = true := by rw [litB_neg]; exact hl0
      have hself : ∀ l, upd e.wat (-lit) ([] ++ e.wat (-lit)) l = e.wat l := fun l => by rw [upd_get]; split; · rename_i h; rw [h]; rfl
                                                                                         · rfl
      obtain ⟨e2, r, h1, h2⟩ := falsF_ok (h := e.hd) hB hl (e.wat (-lit)) [] { e with hd := e.hd + 1 } ⟨ht.vl, ht.rl, ht.ll, ht.v3, ht.lits, ht.nd, ht.tr⟩ hp.c (by rw [Int.neg_neg]; exact hlit) (fun s hs => by have hs2 : s ∈ e.st := hs; rw [hp.st] at hs2; simp at hs2) hlim
        (wat_congr (wat := e.wat) ⟨hp.w.w1, hp.w.w3, hp.w.w4⟩ hself) (by simp)
      have hp1 : PI f B gs { e with hd := e.hd + 1 } e.hd := ⟨⟨ht.vl, ht.rl, ht.ll, ht.v3, ht.lits, ht.nd, ht.tr⟩, hp.c, ⟨hp.w.w1, hp.w.w3, hp.w.w4⟩, hp.st, hp.ip, hp.ii⟩
      have hat : ∀ d, d ∈ e.wat (e.g0 d) → d ∈ e2.wat (e2.g0 d) := fun d hd => h2.att d (by show d ∈ upd e.wat (-lit) ([] ++ e.wat (-lit)) (e.g0 d); rw [hself]; exact hd)
      have hs2 : ∀ M, Closed B gs ls M → ∀ l ∈ e2.tr, M l := fun M hM => hp1.sound hM (hs M hM) h2.gr
      simp only
      rw [ht.vl, if_pos hl0, h1]
      simp only
      rcases h2.ok with ⟨a, b⟩ | ⟨c, a1, a2, a3, a4, a5⟩
      · rw [if_neg (by omega)]
        have hhd : e2.hd = e.hd + 1 := h2.gr.hd
        have htl := h2.gr.len
        simp only at htl
        have hp2 : PI f B gs e2 e2.hd := by rw [hhd]; exact hp1.grow h2.gr h2.tr hat b
        obtain ⟨e3, r3, q1, q2, q3⟩ := ih e2 (by omega) hp2 (by omega) (by rw [h2.gr.n]; exact hlim) hs2
        exact ⟨e3, r3, q1, q2, fun l hl => q3 l (h2.gr.sub hl)⟩
      · rw [if_pos (by omega)]
        refine ⟨e2, r, rfl, ⟨fun _ M hM => ?_, fun h => by omega⟩, fun l hl => h2.gr.sub hl⟩
        exact hp1.conf hM a2 fun x hx => hs2 M hM _ (a3 x hx)
theorem PI.closed (hB:B≤1024) (hp:PI f B gs e e.tr.length) (hlt:∀g∈gs,∀x∈g,litB B x=true) (hls:∀l∈ls,l∈e.tr):Closed B gs ls (TrueIn B e.val):=by
 have hin:∀l,TrueIn B e.val l↔l∈e.tr:=fun l=>⟨fun h=>(hp.t.tr l h.1).1 h.2,fun h=>⟨hp.t.lits l h,(hp.t.tr l (hp.t.lits l h)).2 h⟩⟩
 refine ⟨fun l h=>h.1,fun l h1 h2=>hp.t.not_both ((hin _).1 h1) ((hin _).1 h2),fun l hl=>(hin l).2 (hls l hl),fun g hg => ?_⟩
 rcases hp.ii g hg with h|⟨c,hc,hn,hcase⟩
 ·have hs:=norm_spec g
  rw [h] at hs
  rcases hs with ⟨x,hx,hb⟩|⟨x,hx,ho,h0⟩
  ·exfalso
   have h1:=litB_iff.1 (hlt g hg x hx)
   simp only [badLit,Bool.or_eq_true,beq_iff_eq] at hb
   unfold vr at h1
   omega
  ·by_cases c1:TrueIn B e.val x
   ·exact .inl ⟨x,hx,c1⟩
   ·by_cases c2:TrueIn B e.val (-x)
    ·exact .inl ⟨-x,ho,c2⟩
    ·exact .inr ⟨x,hx, -x,ho,by omega,c2,by rw [Int.neg_neg];exact c1⟩
 ·have hs:=norm_spec g
  rw [hn] at hs
  have hmem:∀z,z∈e.cl c→z∈g:=fun z hz=>(hs.2.1 z).1 (((fine_norm hB (hp.c c hc)).2.2 z).2 hz)
  rcases hcase with ⟨h2,hw⟩|⟨l,h1,h2, -⟩
  ·obtain ⟨w1,w2⟩:=hp.w.w3 c hw
   have m0:e.g0 c∈e.cl c:=getD_mem (by omega)
   have m1:e.g1 c∈e.cl c:=getD_mem (by omega)
   have hne:e.g0 c≠e.g1 c:=(hp.c c hc).ne (by omega) h2 (by omega)
   unfold W3c at w1 w2
   rw [List.take_length] at w1 w2
   by_cases c1 : -(e.g0 c)∈e.tr
   ·exact .inl ⟨_,hmem _ m1,(hin _).2 (w1 c1).1⟩
   ·by_cases c2 : -(e.g1 c)∈e.tr
    ·exact .inl ⟨_,hmem _ m0,(hin _).2 (w2 c2).1⟩
    ·exact .inr ⟨_,hmem _ m0,_,hmem _ m1,hne,fun h=>c1 ((hin _).1 h),fun h=>c2 ((hin _).1 h)⟩
  ·exact .inl ⟨l,hmem l (by rw [h1];simp),(hin l).2 h2⟩
theorem load_sound (hM:Closed B gs ls M) (hr:RsI e) (hst:e.st=[]) (hip:∀c,c<e.cls.length→∃g∈gs,∀z,z∈g↔z∈e.cl c):∀l∈e.tr,M l:=by
 have key:∀(n p:Nat) (l:Int),p<n→e.tr[p]? = some l→M l:=by
  intro n
  induction n with
  | zero=>intro p l hlt;omega
  | succ n ih =>
   intro p l hlt hl
   obtain ⟨c, -,hc, -,hx⟩:=hr p l hl (by rw [hst];simp)
   obtain ⟨g,hg,hz⟩:=hip c hc
   refine hM.unit hg fun x hx1 hne => ?_
   obtain ⟨q,hq⟩:=List.mem_iff_getElem?.1 (hx x ((hz x).1 hx1) hne)
   rw [List.getElem?_take] at hq
   split at hq
   ·exact ih q _ (by omega) hq
   ·cases hq
 intro l hl
 obtain ⟨p,hp2⟩:=List.mem_iff_getElem?.1 hl
 exact key (p+1) p l (by omega) hp2
theorem outP_ok (hB:B≤1024) (hgl:gs.length<LIM) (hlt:∀g∈gs,∀x∈g,litB B x=true) (ls:List Int):∃o,outP B (B+2) gs ls=some o∧PrpOk B gs ls o:=by
 obtain ⟨e1,r,h1,h2,h3⟩:=loadF_ok (f:=⟨0,0,[],[]⟩) hB gs [] (Eng.new B) (Load.new _ B) hlt
 have hlim:e1.cls.length<LIM:=by simp [Eng.new] at h2;omega
 have hip:∀e':Eng,ClI B e'→e'.inp.length=e'.cls.length→(∀(c k:Nat),e'.inp[c]? = some k→∃g,gs[k]? = some g∧norm g=some (e'.nmc c))→∀c,c<e'.cls.length→∃g∈gs,∀z,z∈g↔z∈e'.cl c:=by
  intro e' hcl hil hip c hc
  obtain ⟨k,hk⟩:∃k,e'.inp[c]? = some k:=⟨_,List.getElem?_eq_getElem (by omega)⟩
  obtain ⟨g,a1,a2⟩:=hip c k hk
  have hs:=norm_spec g
  rw [a2] at hs
  exact ⟨g,List.mem_of_getElem? a1,fun z=>(hs.2.1 z).symm.trans ((fine_norm hB (hcl c hc)).2.2 z)⟩
 rw [List.length_nil] at h1
 unfold outP
 rw [h1]
 simp only
 rcases h3 with ⟨rfl,hL⟩|⟨c,rfl,hc1,hst,hhd,hE,hx,hil,hkk⟩
 ·rw [if_neg (by omega)]
  have hL:Load ⟨0,0,[],[]⟩ B gs e1:=hL
  have hq:=hip e1 hL.i.c hL.il hL.ip
  have hp:PI ⟨0,0,[],[]⟩ B gs e1 0:=⟨hL.i.t,hL.i.c,hL.i.w,hL.st,hq,hL.i.i⟩
  have hs1:∀M,Closed B gs ls M→∀l∈e1.tr,M l:=fun M hM=>load_sound hM hL.i.r hL.st hq
  rcases assumeF_ok ls e1 hp hL.hd with ⟨a1,a2⟩|⟨e2,a1,a2,a3,a4,a5,a6,a7⟩
  ·rw [a1]
   exact ⟨none,rfl,fun M hM=>a2 ls M hM (fun _ h=>h) (hs1 M hM)⟩
  ·rw [a1]
   simp only
   have hs2:∀M,Closed B gs ls M→∀l∈e2.tr,M l:=fun M hM l hl=>by
    rcases a7 l hl with h|h
    ·exact hs1 M hM l h
    ·exact hM.ls l h
   obtain ⟨e3,r,q1,q2,q3⟩:=propF_ok (ls:=ls) (by unfold LIM;omega) (B+2) e2 (by omega) (by rw [a3];exact a2) (by omega) (by rw [a4];exact hlim) hs2
   rw [q1]
   simp only
   by_cases hr:0≤r
   ·rw [if_pos hr]
    exact ⟨none,rfl,q2.no hr⟩
   ·rw [if_neg hr]
    obtain ⟨b1,b2⟩:=q2.yes (by omega)
    refine ⟨some (litsF 0 e3.val),rfl,e3.val,b1.t.vl,b1.t.v3,rfl,b1.closed hB hlt fun l hl=>q3 l (a6 l hl),fun M hM l hl=>b2 M hM l ((b1.t.tr l hl.1).1 hl.2)⟩
 ·rw [if_pos (by omega)]
  refine ⟨none,rfl,fun M hM => ?_⟩
  have hq:=hip e1 hE.c hil (fun c k h=>by obtain ⟨g,b1,b2⟩:=hkk c k h;exact ⟨g,by simpa using b1,b2⟩)
  obtain ⟨g,hg,hz⟩:=hq c (by omega)
  exact hM.conf hg fun x hx1=>load_sound hM hE.r hst hq _ (hx x ((hz x).1 hx1))
end
end Go.Proofs.Yticieifacalocaa
