/- PrpLaw Same Make -/
import Derived.Test.YticieifacalocaaTSB22
namespace Go.Proofs.Yticieifacalocaa
structure Closed (B:Nat) (gs:List (List Int)) (ls:List Int) (M:Int→Prop):Prop where
 rng:∀l,M l→litB B l=true
 two:∀l,M l→¬M (-l)
 ls:∀l∈ls,M l
 cl:∀g∈gs,(∃x∈g,M x)∨∃x∈g,∃y∈g,x≠y∧¬M (-x)∧¬M (-y)
def TrueIn (B:Nat) (val:List Int) (l:Int):Prop:=litB B l=true∧tv val l=1
def PrpOk (B:Nat) (gs:List (List Int)) (ls:List Int):Option (List Int)→Prop
 | none=>∀M,¬Closed B gs ls M
 | some out=>∃val:List Int,val.length=B∧(∀i,val.getD i 0=0∨val.getD i 0=1∨val.getD i 0 = -1)∧out=gX 0 val∧Closed B gs ls (TrueIn B val)∧∀M,Closed B gs ls M→∀l,TrueIn B val l→M l
theorem pU {val:List Int} (v:Nat):tv val ((v:Int)+1)=val.getD v 0:=by
 unfold tv vr
 rw [if_neg (by omega),show ((v:Int)+1).natAbs-1=v by omega]
theorem lU {val:List Int} (v:Nat):tv val (-((v:Int)+1)) = -(val.getD v 0):=by
 unfold tv vr
 rw [if_pos (by omega),show (-((v:Int)+1)).natAbs-1=v by omega]
theorem iE {B v:Nat} (h:v<B):litB B ((v:Int)+1)=true:=by rw [wU];unfold vr;omega
theorem eR {B v:Nat} (h:v<B):litB B (-((v:Int)+1))=true:=by rw [wU];unfold vr;omega
theorem PrpOk.uniq {B:Nat} {gs:List (List Int)} {ls:List Int} {a b:Option (List Int)} (ha:PrpOk B gs ls a) (hb:PrpOk B gs ls b):a=b:=by
 cases a with
 | none =>
  cases b with
  | none=>rfl
  | some b=>obtain ⟨val, -, -, -,h, -⟩:=hb;exact absurd h (ha _)
 | some a =>
  cases b with
  | none=>obtain ⟨val, -, -, -,h, -⟩:=ha;exact absurd h (hb _)
  | some b =>
   obtain ⟨v1,a1,a2,a3,a4,a5⟩:=ha
   obtain ⟨v2,b1,b2,b3,b4,b5⟩:=hb
   have he:v1=v2:=by
    refine List.ext_getElem (by rw [a1,b1]) fun i h1 h2 => ?_
    have g1:v1.getD i 0=v1[i]:=by rw [List.getD_eq_getElem?_getD,List.getElem?_eq_getElem h1];rfl
    have g2:v2.getD i 0=v2[i]:=by rw [List.getD_eq_getElem?_getD,List.getElem?_eq_getElem h2];rfl
    have hi:i<B:=by omega
    have k1:=fun h=>a5 _ b4 ((i:Int)+1) ⟨iE hi,by rw [pU];exact h⟩
    have k2:=fun h=>a5 _ b4 (-((i:Int)+1)) ⟨eR hi,by rw [lU];exact h⟩
    have k3:=fun h=>b5 _ a4 ((i:Int)+1) ⟨iE hi,by rw [pU];exact h⟩
    have k4:=fun h=>b5 _ a4 (-((i:Int)+1)) ⟨eR hi,by rw [lU];exact h⟩
    simp only [TrueIn,pU,lU] at k1 k2 k3 k4
    rw [←g1,←g2]
    have:=a2 i
    have:=b2 i
    by_cases c1:v1.getD i 0=1
    ·rw [c1,(k1 c1).2]
    ·by_cases c2:v1.getD i 0 = -1
     ·have:=(k2 (by omega)).2;omega
     ·by_cases c3:v2.getD i 0=1
      ·have:=(k3 c3).2;omega
      ·by_cases c4:v2.getD i 0 = -1
       ·have:=(k4 (by omega)).2;omega
       ·omega
   rw [a3,b3,he]
section
variable {f:Form} {B:Nat} {gs:List (List Int)} {ls:List Int} {M:Int→Prop} {e e2:Eng} {h:Nat}
theorem Closed.unit (hM:Closed B gs ls M) {g:List Int} (hg:g∈gs) {l:Int} (h:∀x∈g,x≠l→M (-x)):M l:=by
 have nx:∀x,M (-x)→¬M x:=fun x h1 h2=>hM.two _ h2 h1
 rcases hM.cl g hg with ⟨x,hx,hm⟩|⟨x,hx,y,hy,hne,h1,h2⟩
 ·by_cases e:x=l
  ·rw [←e];exact hm
  ·exact absurd hm (nx x (h x hx e))
 ·by_cases e:x=l
  ·exact absurd (h y hy (fun e2=>hne (e.trans e2.symm))) h2
  ·exact absurd (h x hx e) h1
theorem Closed.conf (hM:Closed B gs ls M) {g:List Int} (hg:g∈gs) (h:∀x∈g,M (-x)):False:=by
 rcases hM.cl g hg with ⟨x,hx,hm⟩|⟨x,hx,y,hy,hne,h1,h2⟩
 ·exact hM.two _ hm (h x hx)
 ·exact h1 (h x hx)
structure PI (f:Form) (B:Nat) (gs:List (List Int)) (e:Eng) (h:Nat):Prop where
 t:TrI B e
 c:ClI B e
 w:WtI e e.wat h
 st:e.st=[]
 ip:∀c,c<e.cls.length→∃g∈gs,∀z,z∈g↔z∈e.cl c
 ii:InI (f.with gs) e
theorem PI.unit (hp:PI f B gs e h) (hM:Closed B gs ls M) {c:Nat} (hc:c<e.cls.length) {l:Int} (hx:∀x∈e.cl c,x≠l→M (-x)):M l:=by
 obtain ⟨g,hg,hz⟩:=hp.ip c hc
 exact hM.unit hg fun x hx2 hne=>hx x ((hz x).1 hx2) hne
theorem PI.conf (hp:PI f B gs e h) (hM:Closed B gs ls M) {c:Nat} (hc:c<e.cls.length) (hx:∀x∈e.cl c,M (-x)):False:=by
 obtain ⟨g,hg,hz⟩:=hp.ip c hc
 exact hM.conf hg fun x hx2=>hx x ((hz x).1 hx2)
theorem PI.sound (hp:PI f B gs e h) (hM:Closed B gs ls M) (hs:∀l∈e.tr,M l) (hg:Grow e e2):∀l∈e2.tr,M l:=by
 have key:∀(n p:Nat) (l:Int),p<n→e2.tr[p]? = some l→M l:=by
  intro n
  induction n with
  | zero=>intro p l hlt;omega
  | succ n ih =>
   intro p l hlt hl
   by_cases hb:p<e.tr.length
   ·obtain ⟨m,hm⟩:=hg.tr
    rw [hm,zP hb] at hl
    exact hs l (List.mem_of_getElem? hl)
   ·obtain ⟨-,c, -,hc, -,hx⟩:=hg.new p l (by omega) hl
    refine hp.unit hM hc fun x hx1 hne => ?_
    obtain ⟨q,hq⟩:=kO.1 (hx x hx1 hne)
    rw [qK] at hq
    split at hq
    ·exact ih q _ (by omega) hq
    ·cases hq
 intro l hl
 obtain ⟨p,hp2⟩:=kO.1 hl
 exact key (p+1) p l (by omega) hp2
theorem PI.grow (hp:PI f B gs e h) (hg:Grow e e2) (ht:TrI B e2) (hat:∀d,d∈e.wat (e.g0 d)→d∈e2.wat (e2.g0 d)) {k:Nat} (hw:WtI e2 e2.wat k):PI f B gs e2 k:=by
 refine ⟨ht,hg.cli hp.c,hw,hg.st.trans hp.st,fun c hc => ?_,fun g hgm => ?_⟩
 ·obtain ⟨g,h1,h2⟩:=hp.ip c (by rw [←hg.n];exact hc)
  exact ⟨g,h1,fun z=>(h2 z).trans hg.mem.symm⟩
 ·rcases hp.ii g hgm with h|⟨c,h1,h2,h3⟩
  ·exact .inl h
  ·refine .inr ⟨c,by rw [hg.n];exact h1,by rw [hg.nmc];exact h2,?_⟩
   rcases h3 with ⟨h3,h4⟩|⟨l,h3,h4,h5⟩
   ·exact .inl ⟨by rw [(hg.perm c).length_eq];exact h3,hat c h4⟩
   ·refine .inr ⟨l,?_,hg.sub h4,fun s hs => ?_⟩
    ·have:=hg.perm c
     rw [h3] at this
     exact uM.1 this
    ·rw [hg.st,hp.st] at hs;simp at hs
theorem PI.assume (hp:PI f B gs e 0) {l:Int} (hl:litB B l=true) (h0:tv e.val l=0):PI f B gs (e.assign l (-1)) 0:=by
 refine ⟨hp.t.assign hl h0,hp.c,⟨hp.w.w1,fun d hd=>⟨fun hm=>by simp at hm,fun hm=>by simp at hm⟩,hp.w.w4⟩,hp.st,hp.ip,fun g hgm => ?_⟩
 rcases hp.ii g hgm with h|⟨c,h1,h2,h3⟩
 ·exact .inl h
 ·refine .inr ⟨c,h1,h2,?_⟩
  rcases h3 with h3|⟨l2,h3,h4,h5⟩
  ·exact .inl h3
  ·exact .inr ⟨l2,h3,qN _ h4,fun s hs=>by have hs2:s∈e.st:=hs;rw [hp.st] at hs2;simp at hs2⟩
theorem assumeF_ok:∀(ls:List Int) (e:Eng),PI f B gs e 0→e.hd=0 →
  (dC B ls e=none∧∀(all:List Int) (M:Int→Prop),Closed B gs all M→(∀l∈ls,l∈all)→(∀l∈e.tr,M l)→False) ∨
  ∃e2,dC B ls e=some e2∧PI f B gs e2 0∧e2.hd=0∧e2.cls.length=e.cls.length∧(∀l∈e.tr,l∈e2.tr)∧(∀l∈ls,l∈e2.tr)∧∀l∈e2.tr,l∈e.tr∨l∈ls:=by
 intro ls
 induction ls with
 | nil=>intro e hp hh;exact .inr ⟨e,rfl,hp,hh,rfl,fun _ h=>h,by simp,fun l h => .inl h⟩
 | cons l r ih =>
  intro e hp hh
  rw [dC]
  by_cases hb:litB B l=true
  ·obtain ⟨l0,l1⟩:=wU.1 hb
   have hr:¬(l=0∨l < -(B:Int)∨(B:Int)<l):=by unfold vr at l1;omega
   have h3:=hp.t.three l
   by_cases h1:tv e.val l<0
   ·rw [if_pos (.inr (.inr (.inr h1)))]
    refine .inl ⟨rfl,fun all M hM hal htr => ?_⟩
    have:=htr _ ((hp.t.false_ hb).1 (by omega))
    exact hM.two _ (hM.ls l (hal l (by simp))) this
   ·rw [if_neg (by rintro (h|h|h|h)<;>first|exact hr (.inl h)|exact hr (.inr (.inl h))|exact hr (.inr (.inr h))|exact h1 h)]
    by_cases h0:tv e.val l=0
    ·rw [if_pos h0]
     have htr:(e.assign l (-1)).tr=e.tr++[l]:=rfl
     rcases ih _ (hp.assume hb h0) hh with ⟨a1,a2⟩|⟨e2,a1,a2,a3,a4,a5,a6,a7⟩
     ·refine .inl ⟨a1,fun all M hM hal ht=>a2 all M hM (fun x hx=>hal x (by simp [hx])) fun x hx => ?_⟩
      rw [htr] at hx
      rcases zI.1 hx with hx|hx
      ·exact ht x hx
      ·rw [zH] at hx;subst hx;exact hM.ls x (hal x (by simp))
     ·refine .inr ⟨e2,a1,a2,a3,a4,fun x hx=>a5 x (by rw [htr];simp [hx]),fun x hx => ?_,fun x hx => ?_⟩
      ·rcases zW.1 hx with rfl|hx
       ·exact a5 x (by rw [htr];simp)
       ·exact a6 x hx
      ·rcases a7 x hx with h|h
       ·rw [htr] at h
        rcases zI.1 h with h|h
        ·exact .inl h
        ·rw [zH] at h;subst h;exact .inr (by simp)
       ·exact .inr (by simp [h])
    ·rw [if_neg h0]
     have hl:l∈e.tr:=(hp.t.tr l hb).1 (by omega)
     rcases ih _ hp hh with ⟨a1,a2⟩|⟨e2,a1,a2,a3,a4,a5,a6,a7⟩
     ·exact .inl ⟨a1,fun all M hM hal ht=>a2 all M hM (fun x hx=>hal x (by simp [hx])) ht⟩
     ·refine .inr ⟨e2,a1,a2,a3,a4,a5,fun x hx => ?_,fun x hx => ?_⟩
      ·rcases zW.1 hx with rfl|hx
       ·exact a5 x hl
       ·exact a6 x hx
      ·rcases a7 x hx with h|h
       ·exact .inl h
       ·exact .inr (by simp [h])
  ·have hr:l=0∨l < -(B:Int)∨(B:Int)<l:=by
    by_cases h:l=0
    ·exact .inl h
    ·right
     have:¬(l≠0∧vr l<B):=fun h2=>hb (wU.2 h2)
     unfold vr at this
     omega
   rw [if_pos (by rcases hr with h|h|h;exact .inl h;exact .inr (.inl h);exact .inr (.inr (.inl h)))]
   exact .inl ⟨rfl,fun all M hM hal _=>hb (hM.rng l (hM.ls l (hal l (by simp))))⟩
structure PEnd (f:Form) (B:Nat) (gs:List (List Int)) (ls:List Int) (e2:Eng) (r:Int):Prop where
 no:0≤r→∀M,¬Closed B gs ls M
 yes:r<0→PI f B gs e2 e2.tr.length∧∀M,Closed B gs ls M→∀l∈e2.tr,M l
theorem propF_ok (hB : B < LIM) : ∀ (k : Nat) (e : Eng), B < e.hd + k → PI f B gs e e.hd → e.hd ≤ e.tr.length → e.cls.length < LIM → (∀ M, Closed B gs ls M → ∀ l ∈ e.tr, M l) →
    ∃ e2 r, aT k e = some (e2, r) ∧ PEnd f B gs ls e2 r ∧ ∀ l ∈ e.tr, l ∈ e2.tr := by
  intro k
  induction k with
  | zero => intro e hk hp hh _ _; have := hp.t.len; omega
  | succ k ih =>
    intro e hk hp hh hlim hs
    rw [aT]
    cases hlit : e.tr[e.hd]? with
    | none =>
      have hge : e.tr.length ≤ e.hd := by rw [xJ] at hlit; exact hlit
      have he : e.hd = e.tr.length := by omega
      exact ⟨e, -1, rfl, ⟨fun h => by omega, fun _ => ⟨by rw [← he]; exact hp, hs⟩⟩, fun _ h => h⟩
    | some lit =>
      have hlt := (zG.1 hlit).1
      have ht := hp.t
      have hl0 := ht.lits lit (List.mem_of_getElem? hlit)
      have hl : litB B (-lit) = true := by rw [bW]; exact hl0
      have hself : ∀ l, upd e.wat (-lit) ([] ++ e.wat (-lit)) l = e.wat l := fun l => by rw [gN]; split; · rename_i h; rw [h]; rfl
                                                                                         · rfl
      obtain ⟨e2, r, h1, h2⟩ := rV (h := e.hd) hB hl (e.wat (-lit)) [] { e with hd := e.hd + 1 } ⟨ht.vl, ht.rl, ht.ll, ht.v3, ht.lits, ht.nd, ht.tr⟩ hp.c (by rw [yC]; exact hlit) (fun s hs => by have hs2 : s ∈ e.st := hs; rw [hp.st] at hs2; simp at hs2) hlim
        (oP (wat := e.wat) ⟨hp.w.w1, hp.w.w3, hp.w.w4⟩ hself) (by simp)
      have hp1 : PI f B gs { e with hd := e.hd + 1 } e.hd := ⟨⟨ht.vl, ht.rl, ht.ll, ht.v3, ht.lits, ht.nd, ht.tr⟩, hp.c, ⟨hp.w.w1, hp.w.w3, hp.w.w4⟩, hp.st, hp.ip, hp.ii⟩
      have hat : ∀ d, d ∈ e.wat (e.g0 d) → d ∈ e2.wat (e2.g0 d) := fun d hd => h2.att d (by show d ∈ upd e.wat (-lit) ([] ++ e.wat (-lit)) (e.g0 d); rw [hself]; exact hd)
      have hs2 : ∀ M, Closed B gs ls M → ∀ l ∈ e2.tr, M l := fun M hM => hp1.sound hM (hs M hM) h2.gr
      simp only
      rw [ht.vl, if_pos hl0, h1]
      simp only
      rcases h2.ok with ⟨a, b⟩ | ⟨c, a1, a2, a3, a4, a5⟩
      · rw [if_neg (by omega)]
        have hhd : e2.hd = e.hd + 1 := h2.gr.hd
        have htl := h2.gr.len
        simp only at htl
        have hp2 : PI f B gs e2 e2.hd := by rw [hhd]; exact hp1.grow h2.gr h2.tr hat b
        obtain ⟨e3, r3, q1, q2, q3⟩ := ih e2 (by omega) hp2 (by omega) (by rw [h2.gr.n]; exact hlim) hs2
        exact ⟨e3, r3, q1, q2, fun l hl => q3 l (h2.gr.sub hl)⟩
      · rw [if_pos (by omega)]
        refine ⟨e2, r, rfl, ⟨fun _ M hM => ?_, fun h => by omega⟩, fun l hl => h2.gr.sub hl⟩
        exact hp1.conf hM a2 fun x hx => hs2 M hM _ (a3 x hx)
theorem PI.closed (hB:B≤1024) (hp:PI f B gs e e.tr.length) (hlt:∀g∈gs,∀x∈g,litB B x=true) (hls:∀l∈ls,l∈e.tr):Closed B gs ls (TrueIn B e.val):=by
 have hin:∀l,TrueIn B e.val l↔l∈e.tr:=fun l=>⟨fun h=>(hp.t.tr l h.1).1 h.2,fun h=>⟨hp.t.lits l h,(hp.t.tr l (hp.t.lits l h)).2 h⟩⟩
 refine ⟨fun l h=>h.1,fun l h1 h2=>hp.t.not_both ((hin _).1 h1) ((hin _).1 h2),fun l hl=>(hin l).2 (hls l hl),fun g hg => ?_⟩
 rcases hp.ii g hg with h|⟨c,hc,hn,hcase⟩
 ·have hs:=gF g
  rw [h] at hs
  rcases hs with ⟨x,hx,hb⟩|⟨x,hx,ho,h0⟩
  ·exfalso
   have h1:=wU.1 (hlt g hg x hx)
   simp only [gH,jN,beq_iff_eq] at hb
   unfold vr at h1
   omega
  ·by_cases c1:TrueIn B e.val x
   ·exact .inl ⟨x,hx,c1⟩
   ·by_cases c2:TrueIn B e.val (-x)
    ·exact .inl ⟨-x,ho,c2⟩
    ·exact .inr ⟨x,hx, -x,ho,by omega,c2,by rw [yC];exact c1⟩
 ·have hs:=gF g
  rw [hn] at hs
  have hmem:∀z,z∈e.cl c→z∈g:=fun z hz=>(hs.2.1 z).1 (((dB hB (hp.c c hc)).2.2 z).2 hz)
  rcases hcase with ⟨h2,hw⟩|⟨l,h1,h2, -⟩
  ·obtain ⟨w1,w2⟩:=hp.w.w3 c hw
   have m0:e.g0 c∈e.cl c:=getD_mem (by omega)
   have m1:e.g1 c∈e.cl c:=getD_mem (by omega)
   have hne:e.g0 c≠e.g1 c:=(hp.c c hc).ne (by omega) h2 (by omega)
   unfold W3c at w1 w2
   rw [yE] at w1 w2
   by_cases c1 : -(e.g0 c)∈e.tr
   ·exact .inl ⟨_,hmem _ m1,(hin _).2 (w1 c1).1⟩
   ·by_cases c2 : -(e.g1 c)∈e.tr
    ·exact .inl ⟨_,hmem _ m0,(hin _).2 (w2 c2).1⟩
    ·exact .inr ⟨_,hmem _ m0,_,hmem _ m1,hne,fun h=>c1 ((hin _).1 h),fun h=>c2 ((hin _).1 h)⟩
  ·exact .inl ⟨l,hmem l (by rw [h1];simp),(hin l).2 h2⟩
theorem mJ (hM:Closed B gs ls M) (hr:RsI e) (hst:e.st=[]) (hip:∀c,c<e.cls.length→∃g∈gs,∀z,z∈g↔z∈e.cl c):∀l∈e.tr,M l:=by
 have key:∀(n p:Nat) (l:Int),p<n→e.tr[p]? = some l→M l:=by
  intro n
  induction n with
  | zero=>intro p l hlt;omega
  | succ n ih =>
   intro p l hlt hl
   obtain ⟨c, -,hc, -,hx⟩:=hr p l hl (by rw [hst];simp)
   obtain ⟨g,hg,hz⟩:=hip c hc
   refine hM.unit hg fun x hx1 hne => ?_
   obtain ⟨q,hq⟩:=kO.1 (hx x ((hz x).1 hx1) hne)
   rw [qK] at hq
   split at hq
   ·exact ih q _ (by omega) hq
   ·cases hq
 intro l hl
 obtain ⟨p,hp2⟩:=kO.1 hl
 exact key (p+1) p l (by omega) hp2
theorem outP_ok (hB:B≤1024) (hgl:gs.length<LIM) (hlt:∀g∈gs,∀x∈g,litB B x=true) (ls:List Int):∃o,outP B (B+2) gs ls=some o∧PrpOk B gs ls o:=by
 obtain ⟨e1,r,h1,h2,h3⟩:=sU (f:=⟨0,0,[],[]⟩) hB gs [] (Eng.new B) (Load.new _ B) hlt
 have hlim:e1.cls.length<LIM:=by simp [Eng.new] at h2;omega
 have hip:∀e':Eng,ClI B e'→e'.inp.length=e'.cls.length→(∀(c k:Nat),e'.inp[c]? = some k→∃g,gs[k]? = some g∧gB g=some (e'.nmc c))→∀c,c<e'.cls.length→∃g∈gs,∀z,z∈g↔z∈e'.cl c:=by
  intro e' hcl hil hip c hc
  obtain ⟨k,hk⟩:∃k,e'.inp[c]? = some k:=⟨_,List.getElem?_eq_getElem (by omega)⟩
  obtain ⟨g,a1,a2⟩:=hip c k hk
  have hs:=gF g
  rw [a2] at hs
  exact ⟨g,List.mem_of_getElem? a1,fun z=>(hs.2.1 z).symm.trans ((dB hB (hcl c hc)).2.2 z)⟩
 rw [xI] at h1
 unfold outP
 rw [h1]
 simp only
 rcases h3 with ⟨rfl,hL⟩|⟨c,rfl,hc1,hst,hhd,hE,hx,hil,hkk⟩
 ·rw [if_neg (by omega)]
  have hL:Load ⟨0,0,[],[]⟩ B gs e1:=hL
  have hq:=hip e1 hL.i.c hL.il hL.ip
  have hp:PI ⟨0,0,[],[]⟩ B gs e1 0:=⟨hL.i.t,hL.i.c,hL.i.w,hL.st,hq,hL.i.i⟩
  have hs1:∀M,Closed B gs ls M→∀l∈e1.tr,M l:=fun M hM=>mJ hM hL.i.r hL.st hq
  rcases assumeF_ok ls e1 hp hL.hd with ⟨a1,a2⟩|⟨e2,a1,a2,a3,a4,a5,a6,a7⟩
  ·rw [a1]
   exact ⟨none,rfl,fun M hM=>a2 ls M hM (fun _ h=>h) (hs1 M hM)⟩
  ·rw [a1]
   simp only
   have hs2:∀M,Closed B gs ls M→∀l∈e2.tr,M l:=fun M hM l hl=>by
    rcases a7 l hl with h|h
    ·exact hs1 M hM l h
    ·exact hM.ls l h
   obtain ⟨e3,r,q1,q2,q3⟩:=propF_ok (ls:=ls) (by unfold LIM;omega) (B+2) e2 (by omega) (by rw [a3];exact a2) (by omega) (by rw [a4];exact hlim) hs2
   rw [q1]
   simp only
   by_cases hr:0≤r
   ·rw [if_pos hr]
    exact ⟨none,rfl,q2.no hr⟩
   ·rw [if_neg hr]
    obtain ⟨b1,b2⟩:=q2.yes (by omega)
    refine ⟨some (gX 0 e3.val),rfl,e3.val,b1.t.vl,b1.t.v3,rfl,b1.closed hB hlt fun l hl=>q3 l (a6 l hl),fun M hM l hl=>b2 M hM l ((b1.t.tr l hl.1).1 hl.2)⟩
 ·rw [if_pos (by omega)]
  refine ⟨none,rfl,fun M hM => ?_⟩
  have hq:=hip e1 hE.c hil (fun c k h=>by obtain ⟨g,b1,b2⟩:=hkk c k h;exact ⟨g,by simpa using b1,b2⟩)
  obtain ⟨g,hg,hz⟩:=hq c (by omega)
  exact hM.conf hg fun x hx1=>mJ hM hE.r hst hq _ (hx x ((hz x).1 hx1))
end
open Go.RowKit
set_option maxHeartbeats 400000 in
theorem same_any (a b:Value) (xs ys:List Int) (w:World) (ha:Ints w a xs) (hb:Ints w b ys) :
  Calls Try.prog 27 #[a,b] w fun e w'=>e = .returned (.bool (decide (xs=ys)))∧∃n,w'=w.drewN n:=by
 obtain ⟨A,c,rfl,hl,hm,hx,hr⟩:=ha
 obtain ⟨A',c',rfl,hl',hm',hx',hr'⟩:=hb
 unfold maxLen at hm hm'
 by_cases hlen:xs.length=ys.length
 ·have hne:((xs.length:Int) != (ys.length:Int))=false:=by simp;omega
  have HX:=Lib.hid hx
  have HX':=Lib.hid hx'
  have HR:=Lib.hid hr
  have HR':=Lib.hid hr'
  have HL:=Lib.hid hlen
  clear hx hx' hr hr' hlen
  go_enter Try.func27,Try.ntmps27
  go_wp2
  go_loopw [13] (fun i wr=>∃k n,k≤xs.length∧i = .int .i64 (k:Nat)∧xs.take k=ys.take k∧wr=w.drewN n) (fun i _=>xs.length-(intOf i).toNat)
  case atStart=>exact ⟨0,0,by omega,rfl,by simp,rfl⟩
  case round =>
   obtain ⟨k,n,hk,rfl,heq,rfl⟩:=hrel
   have HE:=Lib.hid heq
   clear heq
   by_cases hlt:k<xs.length
   ·obtain ⟨x,hxk⟩:∃x,xs[k]? = some x:=⟨_,List.getElem?_eq_getElem hlt⟩
    obtain ⟨y,hyk⟩:∃y,ys[k]? = some y:=⟨_,List.getElem?_eq_getElem (by have:=HL.out;omega)⟩
    obtain ⟨b1,o1,rfl,hb1,hc1⟩:=HR.out.int hxk
    obtain ⟨b2,o2,rfl,hb2,hc2⟩:=HR'.out.int hyk
    have HXK:=Lib.hid hxk
    have HYK:=Lib.hid hyk
    clear hxk hyk
    have hlt2:k<ys.length:=by have:=HL.out;omega
    by_cases hxy:x=y
    ·subst hxy
     go_wp2
     go_quiet (fail)
     go_wp2
     go_roundw
     case rel=>exact ⟨k+1,_,by omega,by go_num,by rw [wW HXK.out,wW HYK.out,HE.out],rfl⟩
     case measure=>simp [intOf];omega
    ·have hbe:(x != y)=true:=by simpa using hxy
     have HD:Hid (decide (xs=ys)=false):=by
      refine decide_eq_false fun h => ?_
      subst h
      have h1:=HXK.out
      rw [HYK.out] at h1
      exact hxy (by injection h1 with h1;exact h1.symm)
     clear hxy
     go_wp2
     go_quiet (fail)
     go_wp2
     go_ret
     exact ⟨by rw [HD.out];rfl,_,kU _ _ _⟩
   ·have HD:Hid (decide (xs=ys)=true):=by
     refine decide_eq_true ?_
     have h1:=HE.out
     have h2:=HL.out
     rwa [zS (by omega),zS (by omega)] at h1
    go_wp2
    go_ret
    exact ⟨by rw [HD.out];rfl,_,rfl⟩
 ·have hd:decide (xs=ys)=false:=by simp;intro h;exact hlen (by rw [h])
  rw [hd]
  clear hx hx' hr hr'
  have hne:((xs.length:Int) != (ys.length:Int))=true:=by simp;omega
  go_enter Try.func27,Try.ntmps27
  go_wp2
  go_ret
  exact ⟨rfl,0,rfl⟩
def lQ {α:Type} (z:α) (n:Nat) (ys:List α):List α:=ys++List.replicate (n-ys.length) z
section
variable {α:Type} {z x:α} {n:Nat} {ys:List α}
theorem nI (h:ys.length=n):lQ z n ys=ys:=by simp [lQ,h]
theorem rC (h:ys.length<n) {k:Nat} (hk:ys.length=k):(lQ z n ys).set k x=lQ z n (ys++[x]):=by
 subst hk
 obtain ⟨m,hm⟩:∃m,n-ys.length=m+1:=⟨n-ys.length-1,by omega⟩
 have hm2:n-(ys.length+1)=m:=by omega
 simp [lQ,hm,hm2,List.replicate_succ]
theorem pad_at {k:Nat} (h:k<n) (hk:ys.length≤k):(lQ z n ys)[k]? = some z:=by
 rw [lQ,zL hk,List.getElem?_replicate,if_pos (by omega)]
end
def dL (xs:List Int):Array Value:=(xs.map (Value.int .i64)).toArray
def eT (xs:List Bool):Array Value:=(xs.map Value.bool).toArray
section
variable {w:World} {g k:Nat} {t:TypeId} {xs:List Int} {bs:List Bool} {ds:List Diff}
theorem gV {x:Int} (h:xs[k]? = some x):(dL xs)[k]? = some (.int .i64 x):=by simp [dL,h]
theorem rowB_at {x:Bool} (h:bs[k]? = some x):(eT bs)[k]? = some (.bool x):=by simp [eT,h]
theorem Blk.setI (h:Blk w g t (dL xs)) (k:Nat) (x:Int):Blk (w.setCell ⟨g,k,none⟩ (.int .i64 x)) g t (dL (xs.set k x)):=by
 have:=h.set_ k (.int .i64 x)
 rwa [show (dL xs).setIfInBounds k (.int .i64 x)=dL (xs.set k x) by simp [dL]] at this
theorem Blk.setB (h:Blk w g t (eT bs)) (k:Nat) (x:Bool):Blk (w.setCell ⟨g,k,none⟩ (.bool x)) g t (eT (bs.set k x)):=by
 have:=h.set_ k (.bool x)
 rwa [show (eT bs).setIfInBounds k (.bool x)=eT (bs.set k x) by simp [eT]] at this
theorem Blk.rd (h:Blk w g t (xs.map (Value.int .i64)).toArray) (hx:∀x∈xs,I64 x) (hl:xs.length≤maxLen):Ints w (.slice (some ⟨g,0,none⟩) xs.length xs.length) xs :=
 ⟨_,_,rfl,Nat.le_refl _,hl,hx,fun _=>⟨g,0,rfl,h.lt,fun j u hu=>by rw [yA,h.cell j,zA];exact hu⟩⟩
theorem Blk.ints (h:Blk w g t (dL xs)) (hx:∀x∈xs,I64 x) (hl:xs.length≤maxLen):Ints w (.slice (some ⟨g,0,none⟩) xs.length xs.length) xs:=Blk.rd h hx hl
theorem Blk.bools (h:Blk w g t (eT bs)) (hl:bs.length≤maxLen):Bools w (.slice (some ⟨g,0,none⟩) bs.length bs.length) bs :=
 ⟨_,_,rfl,Nat.le_refl _,hl,fun _=>⟨g,0,rfl,h.lt,fun j u hu=>by rw [yA,h.cell j,eT,zA];exact hu⟩⟩
end
theorem cN (zs:Array Value) (z:Value) (n:Nat) (h0:0<zs.size) (h:∀i,i<zs.size→zs[i]! = z):madeCells zs n=(List.replicate n z).toArray:=by
 apply Array.ext
 ·simp [madeCells]
 ·intro i h1 h2
  simp only [madeCells,Array.getElem_map,Array.getElem_range]
  rw [h _ (Nat.mod_lt _ h0)]
  simp
theorem bU {P:Program} (t e:TypeId) (i:TypeInfo) (z:Value) (ht:P.underlying t=some (.slice e)) (hi:P.info? e=some i) (hz:i.zero=some z)
  (n:Nat) (hbytes:i.bytes * n≤281474976710656) (h63:n≤9223372036854775807) (w:World) :
  (Instr.makeSlice t (.int .i64 (n:Int)) (.int .i64 (n:Int))).run P w = .ok (.slice (some ⟨w.heap.size,0,none⟩) n n) (w.alloc (.cells (madeCells z.cells (n * i.size)) e)):=by
 have hb:(i.bytes:Int) * (n:Int)≤281474976710656:=by
  have h:((i.bytes * n:Nat):Int)≤281474976710656:=by omega
  rwa [Int.natCast_mul] at h
 have hr:=run_make (P:=P) w t e i z ht hi hz .i64 .i64 n n (by omega) (by omega) hb (by omega)
 simp only [Int.toNat_natCast] at hr
 exact hr
theorem iZ:(Try.prog.info? 4).map (fun i=>(i.zero,i.size,i.bytes))=some (some (.bool false),1,1):=by kernel_rfl
theorem zero_i:∀i,i<(Value.int .i64 0).cells.size→(Value.int .i64 0).cells[i]! = .int .i64 0:=fun i hi=>by
 have hi':i<1:=hi
 obtain rfl:i=0:=by omega
 rfl
theorem zero_b:∀i,i<(Value.bool false).cells.size→(Value.bool false).cells[i]! = .bool false:=fun i hi=>by
 have hi':i<1:=hi
 obtain rfl:i=0:=by omega
 rfl
theorem lP (n:Nat) (h:n≤1000000) (w:World):(Instr.makeSlice 33 (.int .i64 (n:Int)) (.int .i64 (n:Int))).run Try.prog w = .ok (.slice (some ⟨w.heap.size,0,none⟩) n n) (w.alloc (.cells (dL (List.replicate n 0)) 3)):=by
 obtain ⟨i,hi,h0,h1,h2⟩:=qB gL
 rw [bU _ _ i _ Try.underlying33 hi h0 n (by rw [h2];omega) (by omega) w,h1,cN _ (.int .i64 0) _ (by decide) zero_i,yD]
 simp [dL]
theorem mk_bools (n:Nat) (h:n≤1000000) (w:World):(Instr.makeSlice 32 (.int .i64 (n:Int)) (.int .i64 (n:Int))).run Try.prog w = .ok (.slice (some ⟨w.heap.size,0,none⟩) n n) (w.alloc (.cells (eT (List.replicate n false)) 4)):=by
 obtain ⟨i,hi,h0,h1,h2⟩:=qB iZ
 rw [bU _ _ i _ Try.underlying32 hi h0 n (by rw [h2];omega) (by omega) w,h1,cN _ (.bool false) _ (by decide) zero_b,yD]
 simp [eT]
end Go.Proofs.Yticieifacalocaa
