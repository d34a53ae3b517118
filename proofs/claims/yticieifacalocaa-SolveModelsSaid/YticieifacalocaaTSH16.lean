/- SolProp -/
import Derived.Test.YticieifacalocaaTSH15
namespace Go.Proofs.Yticieifacalocaa
theorem norm_congr {l m:List Int} (h:∀z,z∈l↔z∈m):wJ l=wJ m:=by
 have hs:=gD l
 cases e:wJ l with
 | none =>
  rw [e] at hs
  refine (dX ?_).symm
  rcases hs with ⟨x,hx,hb⟩|⟨x,hx,ho,h0⟩
  ·exact .inl ⟨x,(h x).1 hx,hb⟩
  ·exact .inr ⟨x,(h x).1 hx,(h _).1 ho,h0⟩
 | some n =>
  rw [e] at hs
  obtain ⟨u1,u2,u3⟩:=hs
  exact (eL u1 (fun z=>(u2 z).trans (h z)) (fun x hx=>u3 x ((h x).2 hx))).symm
def nm (l:List Int):List Int:=(wJ l).getD []
theorem nm_perm {l m:List Int} (h:l.Perm m):nm l=nm m:=by unfold nm;rw [norm_congr fun z=>h.mem_iff]
theorem gJ {B:Nat} (hB:B≤1024) {l:List Int} (h:Fine B l):wJ l=some (nm l)∧Up (nm l)∧∀z,z∈nm l↔z∈l:=by
 have hs:=gD l
 unfold nm
 cases e:wJ l with
 | none =>
  exfalso
  rw [e] at hs
  rcases hs with ⟨x,hx,hb⟩|⟨x,hx,ho,h0⟩
  ·have:=wD.1 (h.1 x hx)
   simp only [wS,Bool.or_eq_true,beq_iff_eq] at hb
   unfold vr at this
   omega
  ·obtain ⟨i,hi,e1⟩:=qL hx
   obtain ⟨j,hj,e2⟩:=qL ho
   have hnd:=h.2
   unfold List.Nodup at hnd
   rw [yO,qM] at hnd
   rcases xJ i j with hij|hij|hij
   ·exact hnd i j hi hj hij (by rw [e1,e2,vr_neg])
   ·subst hij;rw [e1] at e2;omega
   ·exact hnd j i hj hi hij (by rw [e1,e2,vr_neg])
 | some n =>
  rw [e] at hs
  exact ⟨rfl,hs.1,hs.2.1⟩
theorem nm_eq {n l:List Int} (hn:Up n) (h:∀z,z∈n↔z∈l) {B:Nat} (hB:B≤1024) (hf:Fine B l):n=nm l :=
 mO hn (gJ hB hf).2.1 fun z=>(h z).trans ((gJ hB hf).2.2 z).symm
def resL (cur other:List Int) (l:Int):Option (List Int):=if l<0 then res cur other (vr l) else res other cur (vr l)
def gC (nmc:Nat→List Int):List Int→List (Nat × Int)→Option (List Int)
 | cur,[]=>some cur
 | cur,(k,l)::r=>(resL cur (nmc k) l).bind fun n=>gC nmc n r
theorem aD {nmc:Nat→List Int} {ch:List (Nat × Int)}:∀{cur n m:List Int} {k:Nat} {l:Int},gC nmc cur ch=some n→resL n (nmc k) l=some m→gC nmc cur (ch++[(k,l)])=some m:=by
 induction ch with
 | nil=>intro cur n m k l h1 h2;simp [gC] at h1;subst h1;simp [gC,h2]
 | cons x r ih =>
  intro cur n m k l h1 h2
  obtain ⟨a,b⟩:=x
  rw [gC] at h1
  obtain ⟨y,hy,h3⟩:=yI.1 h1
  rw [qT,gC,hy]
  exact ih h3 h2
theorem dB {nmc nmc2:Nat→List Int} {n:Nat} (h:∀k,k<n→nmc2 k=nmc k) {ch:List (Nat × Int)} (hc:∀l∈ch,l.1<n):∀cur,gC nmc2 cur ch=gC nmc cur ch:=by
 induction ch with
 | nil=>intro cur;rfl
 | cons x r ih =>
  intro cur
  obtain ⟨a,b⟩:=x
  rw [gC,gC,h a (hc (a,b) (by simp))]
  cases resL cur (nmc a) b with
  | none=>rfl
  | some y=>exact ih (fun l hl=>hc l (by simp [hl])) y
theorem oG {cur other:List Int} {l:Int} (h0:l≠0) (hv:vr l<1024) (h1 : -l∈cur) (h2:l∈other) (F:Int→Prop) (hF:∀z,F z→¬F (-z)) (hc:∀z∈cur,z ≠ -l→F z∧wS z=false) (ho:∀z∈other,z≠l→F z∧wS z=false) :
  ∃n,resL cur other l=some n∧Up n∧∀z,z∈n↔(z∈cur∧z ≠ -l)∨(z∈other∧z≠l):=by
 have key:∀zs:List Int,(∀z,z∈zs↔(z∈cur∧z ≠ -l)∨(z∈other∧z≠l))→∃n,wJ zs=some n∧Up n∧∀z,z∈n↔(z∈cur∧z ≠ -l)∨(z∈other∧z≠l):=by
  intro zs hz
  have hall:∀z∈zs,F z∧wS z=false:=fun z hm=>by
   rcases (hz z).1 hm with ⟨a,b⟩|⟨a,b⟩
   ·exact hc z a b
   ·exact ho z a b
  have hs:=gD zs
  cases e:wJ zs with
  | none =>
   exfalso
   rw [e] at hs
   rcases hs with ⟨x,hx,hb⟩|⟨x,hx,ho, -⟩
   ·rw [(hall x hx).2] at hb;cases hb
   ·exact hF x (hall x hx).1 (hall _ ho).1
  | some n =>
   rw [e] at hs
   exact ⟨n,rfl,hs.1,fun z=>(hs.2.1 z).trans (hz z)⟩
 unfold resL
 by_cases hl:l<0
 ·rw [if_pos hl]
  have e1:(vr l:Int)+1 = -l:=by unfold vr;omega
  unfold res
  rw [e1,if_pos ⟨by omega,by omega,h1,by rw [yJ];exact h2⟩]
  refine key _ fun z => ?_
  rw [zK,yS,yS,yJ]
  simp
 ·rw [if_neg hl]
  have e1:(vr l:Int)+1=l:=by unfold vr;omega
  unfold res
  rw [e1,if_pos ⟨by omega,by omega,h2,h1⟩]
  refine key _ fun z => ?_
  rw [zK,yS,yS]
  simp
  exact or_comm
structure DerOk (f:Form) (B:Nat) (nmc:Nat→List Int) (c:Nat) (o:Org):Prop where
 kd:o.leaf.kind=0∨o.leaf.kind=1∨o.leaf.kind=2
 k1:o.leaf.kind=1→0≤o.leaf.index∧∃g,f.clauses[o.leaf.index.toNat]? = some g∧wJ g=some (nmc c)
 k2:o.leaf.kind=2→cyc f.atoms o.leaf.lits=some (nmc c)
 k0:o.leaf.kind=0→gC nmc (nmc o.first) o.chain=some (nmc c)
 fi:o.leaf.kind=0→o.first<c
 ch:∀l∈o.chain,l.1<c∧l.2≠0∧vr l.2<1024
 cl:o.chain.length≤2 * B
 f0:o.leaf.kind≠0→o.first=0∧o.chain=[]
 ll:o.leaf.lits.length≤1000∧(∀x∈o.leaf.lits,vr x<1024)∧0≤o.leaf.index∧o.leaf.index≤32768∧o.leaf.p=0∧o.leaf.q=0∧o.leaf.var=0
theorem DerOk.congr {f:Form} {B:Nat} {nmc nmc2:Nat→List Int} {c:Nat} {o:Org} (h:DerOk f B nmc c o) (he:∀k,k≤c→nmc2 k=nmc k):DerOk f B nmc2 c o:=by
 have ec:=he c (Nat.le_refl _)
 refine ⟨h.kd,fun k=>by rw [ec];exact h.k1 k,fun k=>by rw [ec];exact h.k2 k,fun k => ?_,h.fi,h.ch,h.cl,h.f0,h.ll⟩
 rw [ec,he o.first (uN (h.fi k)),dB (n:=c) (fun k hk=>he k (uN hk)) (fun l hl=>(h.ch l hl).1)]
 exact h.k0 k
def Eng.nmc (e:Eng) (c:Nat):List Int:=nm (e.cl c)
theorem Grow.nmc {e e2:Eng} (h:Grow e e2) (c:Nat):e2.nmc c=e.nmc c:=nm_perm (h.perm c)
def levAt (st:List Nat) (p:Nat):Nat:=(st.filter fun s=>decide (s≤p)).length
structure LvI (e:Eng):Prop where
 sp:e.st.Pairwise (· < ·)
 sl:∀s∈e.st,s<e.tr.length∧s≤e.hd
 hd:e.hd≤e.tr.length
 lv:∀p l,e.tr[p]? = some l→e.lvl.getD (vr l) 0=levAt e.st p
def RsI (e:Eng):Prop:=∀p l,e.tr[p]? = some l→p∉e.st→∃c:Nat,e.rsn.getD (vr l) 0=c∧c<e.cls.length∧l∈e.cl c∧∀x∈e.cl c,x≠l → -x∈e.tr.take p
def InI (f:Form) (e:Eng):Prop:=∀g∈f.clauses,wJ g=none∨∃c,c<e.cls.length∧wJ g=some (e.nmc c)∧((2≤(e.cl c).length∧c∈e.wat (e.g0 c))∨∃l,e.cl c=[l]∧l∈e.tr∧∀s∈e.st,l∈e.tr.take s)
structure EngI (f:Form) (B:Nat) (e:Eng) (h:Nat):Prop where
 t:TrI B e
 c:ClI B e
 l:LvI e
 w:WtI e e.wat h
 i:InI f e
 r:RsI e
structure DvI (f:Form) (B:Nat) (s:Sol):Prop where
 ol:s.org.length=s.e.cls.length
 dv:∀c o,s.org[c]? = some o→DerOk f B s.e.nmc c o
 ul:s.unt.length=B
 al:s.acty.length=B
 un:∀v,v<B→s.unt.getD v 0 = -1∨∃c:Nat,s.unt.getD v 0=c∧c<s.e.cls.length∧∃l,s.e.cl c=[l]∧vr l=v∧l∈s.e.tr∧∀s'∈s.e.st,l∈s.e.tr.take s'
structure SolI (f fc:Form) (B N:Nat) (s:Sol) (h:Nat) (Lo:Int):Prop where
 g:EngI fc B s.e h
 t:ThI f B N s.num s.arcs s.act (s.e.tr.take h) Lo
 d:DvI f B s
theorem fH {st:List Nat} {p:Nat} (h:∀s∈st,s≤p):levAt st p=st.length:=by
 unfold levAt
 rw [kB.2 fun s hs=>by simpa using h s hs]
section
variable {f fc:Form} {B N h:Nat} {e e2:Eng}
theorem LvI.grow (hl:LvI e) (hg:Grow e e2):LvI e2:=by
 refine ⟨by rw [hg.st];exact hl.sp,fun s hs => ?_,by rw [hg.hd];exact qA hl.hd hg.len,fun p l hp => ?_⟩
 ·rw [hg.st] at hs
  have:=hl.sl s hs
  have:=hg.len
  rw [hg.hd];omega
 ·by_cases hlt:p<e.tr.length
  ·obtain ⟨m,hm⟩:=hg.tr
   have hp2:e.tr[p]? = some l:=by rw [hm,zO hlt] at hp;exact hp
   rw [(hg.old l (List.mem_of_getElem? hp2)).2,hl.lv p l hp2,hg.st]
  ·rw [(hg.new p l (by omega) hp).1,hg.st,fH fun s hs=>by have:=(hl.sl s hs).1;omega]
theorem RsI.grow (hr:RsI e) (hg:Grow e e2):RsI e2:=by
 intro p l hp hns
 rw [hg.st] at hns
 by_cases hlt:p<e.tr.length
 ·obtain ⟨m,hm⟩:=hg.tr
  have hp2:e.tr[p]? = some l:=by rw [hm,zO hlt] at hp;exact hp
  obtain ⟨c,h1,h2,h3,h4⟩:=hr p l hp2 hns
  refine ⟨c,by rw [(hg.old l (List.mem_of_getElem? hp2)).1];exact h1,by rw [hg.n];exact h2,hg.mem.2 h3,fun x hx hne => ?_⟩
  rw [hg.take (by omega)]
  exact h4 x (hg.mem.1 hx) hne
 ·obtain ⟨-,c,h1,h2,h3,h4⟩:=hg.new p l (by omega) hp
  exact ⟨c,h1,by rw [hg.n];exact h2,hg.mem.2 h3,fun x hx hne=>h4 x (hg.mem.1 hx) hne⟩
theorem InI.grow (hi:InI f e) (hl:LvI e) (hg:Grow e e2) (hat:∀d,d∈e.wat (e.g0 d)→d∈e2.wat (e2.g0 d)):InI f e2:=by
 intro g hgm
 rcases hi g hgm with h|⟨c,h1,h2,h3⟩
 ·exact .inl h
 ·refine .inr ⟨c,by rw [hg.n];exact h1,by rw [hg.nmc];exact h2,?_⟩
  rcases h3 with ⟨h3,h4⟩|⟨l,h3,h4,h5⟩
  ·exact .inl ⟨by rw [(hg.perm c).length_eq];exact h3,hat c h4⟩
  ·refine .inr ⟨l,?_,hg.sub h4,fun s hs => ?_⟩
   ·have:=hg.perm c
    rw [h3] at this
    exact jL.1 this
   ·rw [hg.st] at hs
    rw [hg.take (by have:=(hl.sl s hs).1;omega)]
    exact h5 s hs
theorem DvI.grow {s:Sol} (hd:DvI f B s) (hl:LvI s.e) (hg:Grow s.e e2):DvI f B { s with e:=e2 }:=by
 refine ⟨by show s.org.length=e2.cls.length;rw [hg.n];exact hd.ol,fun c o ho=>(hd.dv c o ho).congr fun k _=>hg.nmc k,hd.ul,hd.al,fun v hv => ?_⟩
 rcases hd.un v hv with h|⟨c,h1,h2,l,h3,h4,h5,h6⟩
 ·exact .inl h
 ·refine .inr ⟨c,h1,by show c<e2.cls.length;rw [hg.n];exact h2,l,?_,h4,hg.sub h5,fun s' hs => ?_⟩
  ·have:=hg.perm c
   rw [h3] at this
   exact jL.1 this
  ·have hs':s'∈s.e.st:=by rw [←hg.st];exact hs
   show l∈e2.tr.take s'
   rw [hg.take (by have:=(hl.sl s' hs').1;omega)]
   exact h6 s' hs'
/-- One literal of the trail is propagated. -/
theorem EngI.fals (hB : B < LIM) (hi : EngI fc B e e.hd) {lit : Int} (hlit : e.tr[e.hd]? = some lit) (hlim : e.cls.length < LIM) :
    ∃ e2 r, gR (-lit) { e with hd := e.hd + 1 } (e.wat (-lit)) [] = some (e2, r) ∧ Grow { e with hd := e.hd + 1 } e2 ∧
      ((r = -1 ∧ EngI fc B e2 (e.hd + 1)) ∨ (∃ c : Nat, r = c ∧ c < e.cls.length ∧ (∀ x ∈ e2.cl c, -x ∈ e2.tr) ∧ -lit ∈ e2.cl c ∧ EngI fc B e2 e.hd)) := by
  have hlt := (zG.1 hlit).1
  have ht := hi.t
  have hl : litB B (-lit) = true := by rw [bL]; exact ht.lits lit (List.mem_of_getElem? hlit)
  have hl1 : LvI { e with hd := e.hd + 1 } := ⟨hi.l.sp, fun s hs => ⟨(hi.l.sl s hs).1, by have := (hi.l.sl s hs).2; show s ≤ e.hd + 1; omega⟩, by show e.hd + 1 ≤ _; exact hlt, hi.l.lv⟩
  have hself : ∀ l, upd e.wat (-lit) ([] ++ e.wat (-lit)) l = e.wat l := fun l => by rw [wT]; split; · rename_i h; rw [h]; rfl
                                                                                     · rfl
  obtain ⟨e2, r, h1, h2⟩ := falsF_ok (h := e.hd) hB hl (e.wat (-lit)) [] { e with hd := e.hd + 1 } ⟨ht.vl, ht.rl, ht.ll, ht.v3, ht.lits, ht.nd, ht.tr⟩ hi.c (by rw [yJ]; exact hlit) (fun s hs => (hi.l.sl s hs).2) hlim
    (wat_congr (wat := e.wat) ⟨hi.w.w1, hi.w.w3, hi.w.w4⟩ hself) (by simp)
  refine ⟨e2, r, h1, h2.gr, ?_⟩
  have hat : ∀ d, d ∈ e.wat (e.g0 d) → d ∈ e2.wat (e2.g0 d) := fun d hd => h2.att d (by show d ∈ upd e.wat (-lit) ([] ++ e.wat (-lit)) (e.g0 d); rw [hself]; exact hd)
  have mk : ∀ k, WtI e2 e2.wat k → EngI fc B e2 k := fun k hk => ⟨h2.tr, h2.gr.cli hi.c, hl1.grow h2.gr, hk, InI.grow (f := fc) (e := { e with hd := e.hd + 1 }) hi.i hl1 h2.gr hat, RsI.grow (e := { e with hd := e.hd + 1 }) hi.r h2.gr⟩
  rcases h2.ok with ⟨a, b⟩ | ⟨c, a1, a2, a3, a4, a5⟩
  · exact .inl ⟨a, mk _ b⟩
  · exact .inr ⟨c, a1, a2, fun x hx => a3 x (h2.gr.mem.1 hx), h2.gr.mem.2 a4, mk _ a5⟩
end
section
variable {f fc:Form} {B N h:Nat} {e e2:Eng} {Lo:Int}
theorem cl_push (e:Eng) (x:List Int) (c:Nat):(e.cls++[x]).getD c []=if c=e.cls.length then x else e.cl c:=by
 rw [List.getD_eq_getElem?_getD]
 by_cases h:c<e.cls.length
 ·rw [if_neg (by omega),zO h];exact (List.getD_eq_getElem?_getD).symm
 ·by_cases h2:c=e.cls.length
  ·subst h2;rw [if_pos rfl,zL (Nat.le_refl _)];simp
  ·rw [if_neg h2,List.getElem?_eq_none (by simp;omega)]
   unfold Eng.cl
   rw [List.getD_eq_getElem?_getD,List.getElem?_eq_none (by omega)]
def Eng.push (e:Eng) (x:List Int):Eng:={ e with cls:=e.cls++[x] }
theorem Eng.push_cl (e:Eng) (x:List Int) (c:Nat):(e.push x).cl c=if c=e.cls.length then x else e.cl c:=cl_push e x c
theorem Eng.push_len (e:Eng) (x:List Int):(e.push x).cls.length=e.cls.length+1:=by simp [Eng.push]
theorem EngI.push (hi:EngI fc B e h) {x:List Int} (hx:Fine B x):EngI fc B (e.push x) h:=by
 have hlen:=e.push_len x
 have hcl:∀c,c<e.cls.length→(e.push x).cl c=e.cl c:=fun c hc=>by rw [e.push_cl,if_neg (by omega)]
 refine ⟨⟨hi.t.vl,hi.t.rl,hi.t.ll,hi.t.v3,hi.t.lits,hi.t.nd,hi.t.tr⟩,fun c hc => ?_,⟨hi.l.sp,hi.l.sl,hi.l.hd,hi.l.lv⟩,⟨fun l c hc => ?_,fun c hc => ?_,hi.w.w4⟩,fun g hg => ?_,fun p l hp hns => ?_⟩
 ·rw [e.push_cl]
  split
  ·exact hx
  ·exact hi.c c (by omega)
 ·have:=hi.w.w1 l c hc
  unfold Eng.g0 Eng.g1 at *
  rw [hcl c this.1]
  exact ⟨by omega,this.2⟩
 ·by_cases hlt:c<e.cls.length
  ·have:=hi.w.w3 c
   unfold Eng.g0 Eng.g1 at *
   rw [hcl c hlt] at hc ⊢
   exact this hc
  ·exact absurd (hi.w.w1 _ c hc).1 hlt
 ·rcases hi.i g hg with h|⟨c,h1,h2,h3⟩
  ·exact .inl h
  ·refine .inr ⟨c,by omega,?_,?_⟩
   ·unfold Eng.nmc at *;rw [hcl c h1];exact h2
   ·unfold Eng.g0 at *
    rw [hcl c h1]
    exact h3
 ·obtain ⟨c,h1,h2,h3,h4⟩:=hi.r p l hp hns
  exact ⟨c,h1,by omega,by rw [hcl c h2];exact h3,fun y hy hne=>h4 y (by rw [hcl c h2] at hy;exact hy) hne⟩
theorem DvI.push {s:Sol} (hd:DvI f B s) {x:List Int} {o:Org} (ho:DerOk f B (s.e.push x).nmc s.e.cls.length o):DvI f B { s with e:=s.e.push x,org:=s.org++[o] }:=by
 have hlen:=s.e.push_len x
 have hcl:∀c,c<s.e.cls.length→(s.e.push x).cl c=s.e.cl c:=fun c hc=>by rw [s.e.push_cl,if_neg (by omega)]
 have hol:=hd.ol
 refine ⟨by show (s.org++[o]).length=_;rw [hlen];simp [hol],fun c o2 ho2 => ?_,hd.ul,hd.al,fun v hv => ?_⟩
 ·have ho2':(s.org++[o])[c]? = some o2:=ho2
  by_cases hlt:c<s.org.length
  ·rw [zO hlt] at ho2'
   exact (hd.dv c o2 ho2').congr fun k hk=>by show nm _=nm _;rw [hcl k (by omega)]
  ·have h1:=(zG.1 ho2').1
   have h2:c=s.org.length:=by simp at h1;omega
   subst h2
   rw [zL (Nat.le_refl _)] at ho2'
   simp at ho2'
   subst ho2'
   rw [hol];exact ho
 ·rcases hd.un v hv with h|⟨c,h1,h2,l,h3,h4,h5⟩
  ·exact .inl h
  ·exact .inr ⟨c,h1,by show c<(s.e.push x).cls.length;omega,l,by show (s.e.push x).cl c=_;rw [hcl c h2];exact h3,h4,h5⟩
theorem sT (hq:SolQ f B N) (ht:TrI B e) {ins:List Int} {lit:Int} {lits:List Int} (hins:∀l∈ins,l∈e.tr) (hl:lit∈e.tr) (hc:CycOk f B ins lit lits) :
  Fine B (lits.map fun l => -l)∧(∀x∈lits.map (fun l => -l), -x∈e.tr) ∧ -lit∈lits.map (fun l => -l)∧cyc f.atoms lits=some (nm (lits.map fun l => -l)):=by
 have hall:∀l∈lits,l∈e.tr:=fun l hm=>by
  rcases hc.sub l hm with h|h
  ·exact hins l h
  ·rw [h];exact hl
 have hfine:Fine B (lits.map fun l => -l):=by
  refine ⟨fun x hx => ?_,?_⟩
  ·obtain ⟨l,hm,rfl⟩:=List.mem_map.1 hx
   rw [bL];exact ht.lits l (hall l hm)
  ·rw [vZ]
   have:(vr ∘ fun l => -l)=vr:=funext fun l=>vr_neg l
   rw [this]
   have hnd:=hc.nd
   unfold List.Nodup at hnd ⊢
   rw [yO]
   refine xZ (fun {a b} ha hb hne e1 => ?_) hnd
   have h1:=hall a ha
   have h2:=hall b hb
   rcases (rC (wD.1 (ht.lits a h1)).1 (wD.1 (ht.lits b h2)).1).1 e1 with e2|e2
   ·exact hne e2
   ·subst e2;exact ht.not_both h2 h1
 refine ⟨hfine,fun x hx => ?_,List.mem_map.2 ⟨lit,hc.has,rfl⟩,?_⟩
 ·obtain ⟨l,hm,rfl⟩:=List.mem_map.1 hx
  rw [yJ];exact hall l hm
 ·obtain ⟨ds,h1,h2⟩:=hc.ds
  unfold cyc
  rw [h1]
  simp only
  rw [if_pos (by simpa [cycB] using h2)]
  exact (gJ hq.bl hfine).1
theorem EngI.mono (hi:EngI fc B e h) {k:Nat} (hk:k≤h):EngI fc B e k:=by
 have key:∀w o,W3c e h w o→W3c e k w o:=fun w o hw hm=>hw (by
  have:e.tr.take k=(e.tr.take h).take k:=by rw [yY,yG hk]
  rw [this] at hm
  exact zN hm)
 exact ⟨hi.t,hi.c,hi.l,⟨hi.w.w1,fun c hc=>⟨key _ _ (hi.w.w3 c hc).1,key _ _ (hi.w.w3 c hc).2⟩,hi.w.w4⟩,hi.i,hi.r⟩
structure PropR (f fc:Form) (B N:Nat) (s:Sol) (Lo:Int) (s2:Sol) (r:Int):Prop where
 tr:∃m,s2.e.tr=s.e.tr++m
 st:s2.e.st=s.e.st
 unt:s2.unt=s.unt
 rst:s2.rst=s.rst
 cl:s.e.cls.length≤s2.e.cls.length∧s2.e.cls.length≤s.e.cls.length+1
 hd:s.e.hd≤s2.e.hd
 ok:∃Lo2,Lo≤Lo2∧Lo2≤Lo+34603041 * ((s2.e.hd:Int)-s.e.hd)∧((r = -1∧s2.e.cls.length=s.e.cls.length∧s2.e.hd=s2.e.tr.length∧SolI f fc B N s2 s2.e.hd Lo2) ∨
  (∃c:Nat,r=c∧c<s2.e.cls.length∧(∀x∈s2.e.cl c, -x∈s2.e.tr)∧(∃x∈s2.e.cl c,∃p,s2.e.tr[p]? = some (-x)∧∀s'∈s2.e.st,s'≤p)∧∃h,(∀s'∈s2.e.st,s'≤h)∧h≤s2.e.hd∧SolI f fc B N s2 h Lo2))
theorem propS_ok (hq : SolQ f B N) : ∀ (k fuel : Nat) (s : Sol) (Lo : Int), B < s.e.hd + k → k + 200 * 576460752303423488 ≤ fuel → SolI f fc B N s s.e.hd Lo → 0 ≤ Lo → Lo + 34603041 * ((B : Int) - s.e.hd) ≤ 576460752303423488 → s.e.cls.length + 1 < LIM →
    ∃ s2 r, bR f fuel s = some (s2, r) ∧ PropR f fc B N s Lo s2 r := by
  intro k
  induction k with
  | zero =>
    intro fuel s Lo h1 _ hs
    have := hs.g.l.hd
    have := hs.g.t.len
    omega
  | succ k ih =>
    intro fuel s Lo h1 hfu hs h0 hLo hlim
    cases fuel with
    | zero => omega
    | succ fuel =>
      rw [bR]
      cases hlit : s.e.tr[s.e.hd]? with
      | none =>
        have hhd := hs.g.l.hd
        have : s.e.tr.length ≤ s.e.hd := by rw [xS] at hlit; exact hlit
        exact ⟨s, -1, rfl, ⟨[], by simp⟩, rfl, rfl, rfl, by omega, Nat.le_refl _, Lo, yM _, by omega, .inl ⟨rfl, rfl, by omega, hs⟩⟩
      | some lit =>
        have hlt := (zG.1 hlit).1
        have hBL : B < LIM := by have := hq.bl; unfold LIM; omega
        have hl : litB B lit = true := hs.g.t.lits lit (List.mem_of_getElem? hlit)
        simp only
        rw [hs.g.t.vl, if_pos hl]
        have hBt := hs.g.t.len
        obtain ⟨e2, r, q1, q2, q3⟩ := hs.g.fals hBL hlit (by omega)
        rw [q1]
        simp only
        have hl1 : LvI { s.e with hd := s.e.hd + 1 } := ⟨hs.g.l.sp, fun s' hs' => ⟨(hs.g.l.sl s' hs').1, by have := (hs.g.l.sl s' hs').2; show s' ≤ s.e.hd + 1; omega⟩, by show s.e.hd + 1 ≤ _; exact hlt, hs.g.l.lv⟩
        have hd2 : DvI f B { s with e := e2 } := by
          have hd1 : DvI f B { s with e := { s.e with hd := s.e.hd + 1 } } := ⟨hs.d.ol, hs.d.dv, hs.d.ul, hs.d.al, hs.d.un⟩
          exact hd1.grow hl1 q2
        have htk : ∀ j, j ≤ s.e.tr.length → e2.tr.take j = s.e.tr.take j := fun j hj => q2.take hj
        have htk1 : s.e.tr.take (s.e.hd + 1) = s.e.tr.take s.e.hd ++ [lit] := by rw [xI, hlit]; rfl
        have hte2 : e2.tr[s.e.hd]? = some lit := by
          obtain ⟨m, hm⟩ := q2.tr
          rw [hm, zO hlt]; exact hlit
        have hhd2 : e2.hd = s.e.hd + 1 := q2.hd
        have hst2 : e2.st = s.e.st := q2.st
        have hn2 : e2.cls.length = s.e.cls.length := q2.n
        have hsth : ∀ s' ∈ e2.st, s' ≤ s.e.hd := fun s' h => (hs.g.l.sl s' (by rw [← hst2]; exact h)).2
        rcases q3 with ⟨rfl, hE⟩ | ⟨c, rfl, c1, c2, c3, hE⟩
        · rw [if_neg (by decide)]
          have hth : ThI f B N s.num s.arcs s.act (s.e.tr.take s.e.hd) Lo := hs.t
          have hLoB : Lo ≤ 576460752303423488 := by have : (s.e.hd : Int) ≤ B := by omega
                                                    omega
          rcases mN (s := { s with e := e2 }) hq hth ⟨h0, hLoB⟩ hl (by rw [qO]; have := hq.bl; omega) (by show e2.cls.length < LIM; omega) (by show s.org.length < LIM; rw [hs.d.ol]; omega) (fuel := fuel) (by omega) with ⟨num, arcs, act, g1, g2⟩ | ⟨lits, g1, g2⟩
          · rw [g1]
            simp only
            rw [if_neg (by decide)]
            have hs3 : SolI f fc B N { s with e := e2, num := num, arcs := arcs, act := act } e2.hd (Lo + 34603041) := by
              refine ⟨by rw [hhd2]; exact hE, ?_, ⟨hd2.ol, hd2.dv, hd2.ul, hd2.al, hd2.un⟩⟩
              show ThI f B N num arcs act (e2.tr.take e2.hd) _
              rw [hhd2, htk _ (by omega), htk1]
              exact g2
            obtain ⟨s4, r4, z1, z2⟩ := ih fuel { s with e := e2, num := num, arcs := arcs, act := act } (Lo + 34603041) (by show B < e2.hd + k; omega) (by omega) hs3 (by omega) (by show Lo + 34603041 + 34603041 * ((B : Int) - e2.hd) ≤ _; rw [hhd2]; omega) (by show e2.cls.length + 1 < LIM; omega)
            refine ⟨s4, r4, z1, ?_⟩
            obtain ⟨m, hm⟩ := z2.tr
            obtain ⟨m2, hm2⟩ := q2.tr
            have hcl := z2.cl
            have hhd := z2.hd
            simp only at hm hm2 hcl hhd
            refine ⟨⟨m2 ++ m, by rw [hm, hm2, qB]⟩, z2.st.trans hst2, z2.unt, z2.rst, by omega, by omega, ?_⟩
            obtain ⟨Lo2, l1, l2, l3⟩ := z2.ok
            simp only at l2 l3
            refine ⟨Lo2, by omega, by omega, ?_⟩
            rcases l3 with ⟨a1, a2, a3, a4⟩ | l3
            · exact .inl ⟨a1, by omega, a3, a4⟩
            · exact .inr l3
          · rw [g1]
            simp only
            rw [if_pos (by omega)]
            have hlm : lit ∈ e2.tr := List.mem_of_getElem? hte2
            obtain ⟨y1, y2, y3, y4⟩ := sT hq hE.t (fun l h => by
              obtain ⟨m, hm⟩ := q2.tr
              rw [hm]; exact qP _ (zN h)) hlm g2
            have hE3 : EngI fc B (e2.push (lits.map fun l => -l)) s.e.hd := (hE.push y1).mono (by omega)
            have hder : DerOk f B (e2.push (lits.map fun l => -l)).nmc e2.cls.length ⟨⟨2, 0, lits, 0, 0, 0⟩, 0, []⟩ := by
              refine ⟨.inr (.inr rfl), fun h => absurd h (by simp), fun _ => ?_, fun h => absurd h (by simp), fun h => absurd h (by simp), by simp, by simp, fun _ => ⟨rfl, rfl⟩, g2.len, fun x hx => ?_, by simp, by simp, rfl, rfl, rfl⟩
              · show cyc f.atoms lits = some (nm ((e2.push _).cl e2.cls.length))
                rw [e2.push_cl, if_pos rfl]
                exact y4
              · have hm : x ∈ e2.tr := by
                  rcases g2.sub x hx with h | h
                  · obtain ⟨m, hm⟩ := q2.tr
                    rw [hm]; exact qP _ (zN h)
                  · rw [h]; exact hlm
                have := (wD.1 (hE.t.lits x hm)).2
                have := hq.bl
                omega
            have hd3 := DvI.push (s := { s with e := e2 }) hd2 hder
            obtain ⟨m2, hm2⟩ := q2.tr
            refine ⟨_, _, rfl, ⟨m2, hm2⟩, hst2, rfl, rfl, ?_, ?_, Lo, yM _, ?_, .inr ⟨e2.cls.length, rfl, ?_, ?_, ?_, s.e.hd, ?_, ?_, ⟨hE3, ?_, hd3⟩⟩⟩
            · show _ ∧ _; simp only [zJ, qQ]; omega
            · show s.e.hd ≤ e2.hd; omega
            · show Lo ≤ Lo + 34603041 * ((e2.hd : Int) - s.e.hd); omega
            · show e2.cls.length < (e2.push _).cls.length; rw [e2.push_len]; omega
            · show ∀ x ∈ (e2.push (lits.map fun l => -l)).cl e2.cls.length, -x ∈ e2.tr
              rw [e2.push_cl, if_pos rfl]
              exact y2
            · refine ⟨-lit, ?_, s.e.hd, ?_, hsth⟩
              · show -lit ∈ (e2.push (lits.map fun l => -l)).cl e2.cls.length
                rw [e2.push_cl, if_pos rfl]
                exact y3
              · rw [yJ]; exact hte2
            · exact hsth
            · show s.e.hd ≤ e2.hd; omega
            · show ThI f B N s.num s.arcs s.act (e2.tr.take s.e.hd) Lo
              rw [htk _ (by omega)]
              exact hs.t
        · rw [if_pos (by omega)]
          obtain ⟨m2, hm2⟩ := q2.tr
          refine ⟨_, _, rfl, ⟨m2, hm2⟩, hst2, rfl, rfl, ?_, ?_, Lo, yM _, ?_, .inr ⟨c, rfl, ?_, c2, ?_, s.e.hd, hsth, ?_, ⟨hE, ?_, hd2⟩⟩⟩
          · show _ ∧ _; simp only; omega
          · show s.e.hd ≤ e2.hd; omega
          · show Lo ≤ Lo + 34603041 * ((e2.hd : Int) - s.e.hd); omega
          · show c < e2.cls.length; omega
          · exact ⟨-lit, c3, s.e.hd, by rw [yJ]; exact hte2, hsth⟩
          · show s.e.hd ≤ e2.hd; omega
          · show ThI f B N s.num s.arcs s.act (e2.tr.take s.e.hd) Lo
            rw [htk _ (by omega)]
            exact hs.t
end
section
variable {f fc:Form} {B N h:Nat} {e e2:Eng} {Lo:Int}
theorem best_fold {val acty:List Int}:∀(n:Nat),let b:=(List.range n).foldl (fun b v=>if val.getD v 0=0∧(b<0∨acty.getD b.toNat 0<acty.getD v 0) then (v:Int) else b) (-1)
  (b = -1∧∀v,v<n→val.getD v 0≠0)∨(0≤b∧b<n∧val.getD b.toNat 0=0):=by
 intro n
 induction n with
 | zero=>exact .inl ⟨rfl,by simp⟩
 | succ n ih =>
  simp only at ih ⊢
  rw [List.range_succ,List.foldl_append,xK,xP]
  generalize (List.range n).foldl _ (-1)=b at ih ⊢
  by_cases hc:val.getD n 0=0∧(b<0∨acty.getD b.toNat 0<acty.getD n 0)
  ·rw [if_pos hc]
   exact .inr ⟨by omega,by omega,by rw [Int.toNat_natCast];exact hc.1⟩
  ·rw [if_neg hc]
   rcases ih with ⟨h1,h2⟩|⟨h1,h2,h3⟩
   ·refine .inl ⟨h1,fun v hv => ?_⟩
    by_cases e:v=n
    ·subst e;intro h0;exact hc ⟨h0, .inl (by omega)⟩
    ·exact h2 v (by omega)
   ·exact .inr ⟨h1,by omega,h3⟩
theorem bestF_ok (val acty:List Int):(fZ val acty = -1∧∀v,v<val.length→val.getD v 0≠0)∨(0≤fZ val acty∧fZ val acty<val.length∧val.getD (fZ val acty).toNat 0=0):=best_fold (val:=val) (acty:=acty) val.length
theorem levAt_snoc {st:List Nat} {n p:Nat} (h:p<n):levAt (st++[n]) p=levAt st p:=by
 unfold levAt;rw [List.filter_append];simp;omega
theorem EngI.decide (hi:EngI fc B e e.hd) (hhd:e.hd=e.tr.length) {l:Int} (hl:litB B l=true) (h0:tv e.val l=0) :
  EngI fc B (({ e with st:=e.st++[e.tr.length] }:Eng).assign l (-1)) e.hd:=by
 have ht1:TrI B { e with st:=e.st++[e.tr.length] }:=⟨hi.t.vl,hi.t.rl,hi.t.ll,hi.t.v3,hi.t.lits,hi.t.nd,hi.t.tr⟩
 have htr:(({ e with st:=e.st++[e.tr.length] }:Eng).assign l (-1)).tr=e.tr++[l]:=rfl
 have hst:(({ e with st:=e.st++[e.tr.length] }:Eng).assign l (-1)).st=e.st++[e.tr.length]:=rfl
 have hsl:=hi.l.sl
 have hlvl:∀x,(({ e with st:=e.st++[e.tr.length] }:Eng).assign l (-1)).lvl.getD (vr x) 0=if vr x=vr l then ((e.st.length+1:Nat):Int) else e.lvl.getD (vr x) 0:=fun x=>by
  show (e.lvl.set _ _).getD _ 0=_
  rw [wG _ _ _ _ _ (by rw [hi.t.ll];exact (wD.1 hl).2)]
  simp
 have hrsn:∀x,(({ e with st:=e.st++[e.tr.length] }:Eng).assign l (-1)).rsn.getD (vr x) 0=if vr x=vr l then -1 else e.rsn.getD (vr x) 0:=fun x=>by
  show (e.rsn.set _ _).getD _ 0=_
  rw [wG _ _ _ _ _ (by rw [hi.t.rl];exact (wD.1 hl).2)]
 obtain ⟨n1,n2⟩:=(hi.t.none_ hl).1 h0
 have hoff:∀x∈e.tr,vr x≠vr l:=fun x hx e1=>by
  rcases (rC (wD.1 (hi.t.lits x hx)).1 (wD.1 hl).1).1 e1 with e2|e2
  ·subst e2;exact n1 hx
  ·subst e2;exact n2 hx
 refine ⟨ht1.assign hl h0,hi.c,⟨?_,fun s hs => ?_,?_,fun p x hp => ?_⟩,⟨hi.w.w1,fun c hc => ?_,hi.w.w4⟩,fun g hg => ?_,fun p x hp hns => ?_⟩
 ·rw [hst,kS]
  refine ⟨hi.l.sp,by simp,fun a ha b hb => ?_⟩
  rw [zH] at hb;subst hb
  exact (hsl a ha).1
 ·rw [hst] at hs
  rw [htr,zJ]
  show _∧s≤e.hd
  rcases zK.1 hs with hs|hs
  ·have:=hsl s hs;simp;omega
  ·rw [zH] at hs;subst hs;simp;omega
 ·show e.hd≤(e.tr++[l]).length
  simp;omega
 ·rw [htr] at hp
  have hp1:=(zG.1 hp).1
  rw [hst,hlvl]
  by_cases hlt:p<e.tr.length
  ·rw [zO hlt] at hp
   rw [if_neg (hoff x (List.mem_of_getElem? hp)),levAt_snoc hlt]
   exact hi.l.lv p x hp
  ·have hpe:p=e.tr.length:=by simp at hp1;omega
   subst hpe
   rw [zL (Nat.le_refl _)] at hp
   simp at hp
   subst hp
   rw [if_pos rfl,fH fun s hs => ?_]
   ·simp
   ·rcases zK.1 hs with hs|hs
    ·have:=hsl s hs;omega
    ·rw [zH] at hs;omega
 ·obtain ⟨a1,a2⟩:=hi.w.w3 c hc
  have key:∀w o,W3c e e.hd w o→W3c (({ e with st:=e.st++[e.tr.length] }:Eng).assign l (-1)) e.hd w o:=by
   intro w o hw hm
   rw [htr,zY (by omega)] at hm
   obtain ⟨b1,b2⟩:=hw hm
   refine ⟨by rw [htr];exact qP _ b1,fun s hs hm2 => ?_⟩
   rw [hst] at hs
   rw [htr] at hm2 ⊢
   rcases zK.1 hs with hs|hs
   ·rw [zY (by have:=hsl s hs;omega)] at hm2 ⊢
    exact b2 s hs hm2
   ·rw [zH] at hs;subst hs
    rw [xH] at hm2 ⊢
    exact b1
  exact ⟨key _ _ a1,key _ _ a2⟩
 ·rcases hi.i g hg with h|⟨c,h1,h2,h3⟩
  ·exact .inl h
  ·refine .inr ⟨c,h1,h2,?_⟩
   rcases h3 with h3|⟨y,h3,h4,h5⟩
   ·exact .inl h3
   ·refine .inr ⟨y,h3,by rw [htr];exact qP _ h4,fun s hs => ?_⟩
    rw [hst] at hs
    rw [htr]
    rcases zK.1 hs with hs|hs
    ·rw [zY (by have:=hsl s hs;omega)];exact h5 s hs
    ·rw [zH] at hs;subst hs;rw [xH];exact h4
 ·rw [htr] at hp ⊢
  rw [hst,zK,jG] at hns
  have hp1:=(zG.1 hp).1
  by_cases hlt:p<e.tr.length
  ·rw [zO hlt] at hp
   obtain ⟨c,h1,h2,h3,h4⟩:=hi.r p x hp hns.1
   refine ⟨c,?_,h2,h3,fun y hy hne => ?_⟩
   ·rw [hrsn,if_neg (hoff x (List.mem_of_getElem? hp))];exact h1
   ·rw [zY (by omega)];exact h4 y hy hne
  ·exact absurd (by simp at hp1 ⊢;omega:p∈[e.tr.length]) hns.2
theorem decideF_ok (hq:SolQ f B N) {s:Sol} (hs:SolI f fc B N s s.e.hd Lo) (hhd:s.e.hd=s.e.tr.length) (h0:0≤Lo∧Lo≤576460752303423488) :
  (decideF f s=some none∧∀v,v<B→s.e.val.getD v 0≠0) ∨
  ∃l,decideF f s=some (some { s with e:=({ s.e with st:=s.e.st++[s.e.tr.length] }:Eng).assign l (-1) })∧SolI f fc B N { s with e:=({ s.e with st:=s.e.st++[s.e.tr.length] }:Eng).assign l (-1) } s.e.hd Lo:=by
 have hvl:=hs.g.t.vl
 have hB:=hs.g.t.len
 have hbl:=hq.bl
 have hstl:s.e.st.length<LIM:=by
  have h1:s.e.st.Nodup:=hs.g.l.sp.imp fun h=>by omega
  have:=bX (N:=s.e.tr.length) h1 fun x hx=>(hs.g.l.sl x hx).1
  unfold LIM;omega
 rcases bestF_ok s.e.val s.acty with ⟨h1,h2⟩|⟨h1,h2,h3⟩
 ·left
  refine ⟨?_,fun v hv=>h2 v (by omega)⟩
  unfold decideF
  simp only [h1]
  rw [if_pos (by decide)]
 ·right
  have hgo:∀l:Int,vr l=(fZ s.e.val s.acty).toNat→l≠0→SolI f fc B N { s with e:=({ s.e with st:=s.e.st++[s.e.tr.length] }:Eng).assign l (-1) } s.e.hd Lo:=by
   intro l hl hl0
   have hlb:litB B l=true:=wD.2 ⟨hl0,by omega⟩
   have htv:tv s.e.val l=0:=by unfold tv;rw [hl,h3];split<;>rfl
   have hE:=hs.g.decide hhd hlb htv
   refine ⟨hE,?_,⟨hs.d.ol,hs.d.dv,hs.d.ul,hs.d.al,fun v hv => ?_⟩⟩
   ·show ThI f B N s.num s.arcs s.act ((s.e.tr++[l]).take s.e.hd) Lo
    rw [zY (by omega)];exact hs.t
   ·rcases hs.d.un v hv with h|⟨c,k1,k2,y,k3,k4,k5,k6⟩
    ·exact .inl h
    ·refine .inr ⟨c,k1,k2,y,k3,k4,qP _ k5,fun s' hs' => ?_⟩
     show y∈(s.e.tr++[l]).take s'
     have hs'':s'∈s.e.st++[s.e.tr.length]:=hs'
     rcases zK.1 hs'' with h|h
     ·rw [zY (by have:=hs.g.l.sl s' h;omega)];exact k6 s' h
     ·rw [zH] at h;subst h;rw [xH];exact k5
  unfold decideF
  simp only
  rw [if_neg (by omega),if_pos ⟨by unfold LIM;omega,hstl,by rw [hs.d.al,hvl]⟩]
  cases hd:f.atoms[(fZ s.e.val s.acty).toNat]? with
  | none=>exact ⟨_,rfl,hgo _ (by unfold vr;omega) (by omega)⟩
  | some d =>
   obtain ⟨f1,f2,f3,f4, -⟩:=hq.at_ d (List.mem_of_getElem? hd)
   have hnl:=hs.t.nl
   have g3:iK (gi s.num d.x)=true:=by have:=hs.t.lo d.x f1 f2;simp only [iK,qI];omega
   have g4:iK (gi s.num d.y)=true:=by have:=hs.t.lo d.y f3 f4;simp only [iK,qI];omega
   simp only
   rw [if_pos ⟨f1,by omega,f3,by omega,g3,g4⟩]
   by_cases hc:gi s.num d.x-gi s.num d.y≤d.c
   ·rw [if_pos hc];exact ⟨_,rfl,hgo _ (by unfold vr;omega) (by omega)⟩
   ·rw [if_neg hc];exact ⟨_,rfl,hgo _ (by unfold vr;omega) (by omega)⟩
theorem undo_loop (hq:SolQ f B N) {s0:Sol} (ht:TrI B s0.e) {h:Nat} (pre:List Int):∀(rm:List Int) (s:Sol),s0.e.tr.take (pre.length+rm.length)=pre++rm.reverse →
  s.e.val.length=B→s.e.rsn.length=B→ThI f B N s.num s.arcs s.act ((pre++rm.reverse).take h) Lo →
  (∀i,s.e.val.getD i 0=if i∈(s0.e.tr.drop (pre.length+rm.length)).map vr then 0 else s0.e.val.getD i 0)→(∀l∈pre++rm.reverse,s.e.rsn.getD (vr l) 0=s0.e.rsn.getD (vr l) 0) →
  ∃s2:Sol,(rm.foldlM (fun s lit=>if undoOk f s lit=true then some (undoF f s lit) else none) s)=some s2∧s2.e.val.length=B∧s2.e.rsn.length=B∧ThI f B N s2.num s2.arcs s2.act (pre.take h) Lo ∧
   (∀i,s2.e.val.getD i 0=if i∈(s0.e.tr.drop pre.length).map vr then 0 else s0.e.val.getD i 0)∧(∀l∈pre,s2.e.rsn.getD (vr l) 0=s0.e.rsn.getD (vr l) 0) ∧
   s2.e.cls=s.e.cls∧s2.e.inp=s.e.inp∧s2.e.wat=s.e.wat∧s2.e.lvl=s.e.lvl∧s2.e.tr=s.e.tr∧s2.e.st=s.e.st∧s2.num=s.num∧s2.org=s.org∧s2.unt=s.unt∧s2.acty=s.acty∧s2.rst=s.rst:=by
 intro rm
 induction rm with
 | nil =>
  intro s _ h1 h2 h3 h4 h5
  exact ⟨s,rfl,h1,h2,by simpa using h3,by simpa using h4,by simpa using h5,rfl,rfl,rfl,rfl,rfl,rfl,rfl,rfl,rfl,rfl,rfl⟩
 | cons x rm ih =>
  intro s hsp h1 h2 h3 h4 h5
  have hmem:∀l∈pre++(x::rm).reverse,l∈s0.e.tr:=fun l hl=>by rw [←hsp] at hl;exact zN hl
  have hxl:litB B x=true:=ht.lits x (hmem x (by simp))
  have hx1:=(wD.1 hxl).2
  have hpr:pre++(x::rm).reverse=(pre++rm.reverse)++[x]:=by simp
  have hnd:(((pre++rm.reverse)++[x]).map vr).Nodup:=by
   rw [←hpr,←hsp]
   exact ht.nd.sublist (List.Sublist.map _ (kN _ _))
  have hnx:vr x∉(pre++rm.reverse).map vr:=fun hm=>by
   rw [List.map_append,qG] at hnd
   exact hnd.2.2 _ hm _ (by simp) rfl
  have hund:undoOk f s x=true∧ThI f B N (undoF f s x).num (undoF f s x).arcs (undoF f s x).act ((pre++rm.reverse).take h) Lo:=by
   rw [hpr] at h3
   by_cases hh:(pre++rm.reverse).length<h
   ·rw [zU (by simp at hh ⊢;omega)] at h3
    rw [zU (by omega)]
    exact h3.undo hq hxl hnd h1
   ·rw [zY (by omega)] at h3
    obtain ⟨k1,k2,k3,k4⟩:=h3.undo_off hxl (fun hm=>hnx (by
     obtain ⟨y,hy,e1⟩:=List.mem_map.1 hm
     exact List.mem_map.2 ⟨y,zN hy,e1⟩)) h1
    exact ⟨k1,by rw [k2,k3,k4];exact h3⟩
  have hlen:pre.length+(x::rm).length=pre.length+rm.length+1:=by simp;omega
  have hat:s0.e.tr[pre.length+rm.length]? = some x:=by
   have h6:(s0.e.tr.take (pre.length+(x::rm).length))[pre.length+rm.length]? = some x:=by
    rw [hsp,hpr,zL (by simp)];simp
   rw [qX] at h6
   split at h6
   ·exact h6
   ·cases h6
  have hdrop:s0.e.tr.drop (pre.length+rm.length)=x::s0.e.tr.drop (pre.length+(x::rm).length):=by
   have hlt:=(zG.1 hat).1
   rw [zT hlt,hlen]
   congr 1
   exact (zG.1 hat).2
  obtain ⟨s2,q1,q2⟩:=ih (undoF f s x) (by
    have:=congrArg (List.take (pre.length+rm.length)) hsp
    rw [yY,yG (by omega),hpr,zY (by simp)] at this
    rw [this,zU (by simp)]) (by simp [undoF,h1]) (by simp [undoF,h2]) hund.2 (fun i=>by
    show (s.e.val.set _ _).getD i 0=_
    rw [wG _ _ _ _ _ (by omega),hdrop,qC,h4]
    by_cases e1:i=vr x
    ·rw [if_pos e1,if_pos (zV.2 (.inl e1))]
    ·rw [if_neg e1]
     by_cases e2:i∈(s0.e.tr.drop (pre.length+(x::rm).length)).map vr
     ·rw [if_pos e2,if_pos (zV.2 (.inr e2))]
     ·rw [if_neg e2,if_neg (fun hm=>(zV.1 hm).elim e1 e2)]) (fun l hl=>by
    show (s.e.rsn.set _ _).getD (vr l) 0=_
    rw [wG _ _ _ _ _ (by omega),if_neg (fun e1=>hnx (List.mem_map.2 ⟨l,hl,e1⟩))]
    exact h5 l (by rw [hpr];exact qP _ hl))
  refine ⟨s2,?_,q2⟩
  rw [qW,if_pos hund.1]
  exact q1
theorem lW {st:List Nat} (hsp:st.Pairwise (· < ·)) {level p first:Nat} (hf:st[level]? = some first) (hp:p<first):levAt (st.take level) p=levAt st p:=by
 have hlt:=(zG.1 hf).1
 unfold levAt
 conv=>rhs;rw [←xR level st]
 rw [List.filter_append]
 have:(st.drop level).filter (fun s=>decide (s≤p))=[]:=by
  rw [vM]
  intro s hs
  have hge:first≤s:=by
   rw [zT hlt,(zG.1 hf).2,zV] at hs
   rcases hs with e|hs
   ·omega
   ·have h2:(st.drop level).Pairwise (· < ·):=hsp.sublist (List.drop_sublist _ _)
    rw [zT hlt,(zG.1 hf).2,yX] at h2
    have:=h2.1 s hs;omega
  simp;omega
 rw [this];simp
theorem iT {st:List Nat} (hsp:st.Pairwise (· < ·)) {level first:Nat} (hf:st[level]? = some first):(∀s∈st.take level,s<first)∧∀s∈st,s<first→s∈st.take level:=by
 have hlt:=(zG.1 hf).1
 have hsp2:=hsp
 rw [←xR level st,zT hlt,(zG.1 hf).2,kS,yX] at hsp2
 refine ⟨fun s hs=>hsp2.2.2 s hs first (by simp),fun s hs hs2 => ?_⟩
 rw [←xR level st,zT hlt,(zG.1 hf).2] at hs
 rcases zK.1 hs with hs|hs
 ·exact hs
 ·rcases zV.1 hs with e|hs
  ·omega
  ·have:=hsp2.2.1.1 s hs;omega
theorem oN (hq:SolQ f B N) {s:Sol} (hs:SolI f fc B N s h Lo) (hst:∀s'∈s.e.st,s'≤h) {level first:Nat} (hf:s.e.st[level]? = some first) :
  ∃s2,backF f s level=some s2∧SolI f fc B N s2 s2.e.hd Lo∧s2.e.hd=first∧s2.e.tr=s.e.tr.take first∧s2.e.st=s.e.st.take level∧s2.e.cls=s.e.cls∧s2.e.wat=s.e.wat∧s2.e.lvl=s.e.lvl∧s2.org=s.org∧s2.unt=s.unt∧s2.acty=s.acty∧s2.rst=s.rst:=by
 have hlt:=(zG.1 hf).1
 have hfm:first∈s.e.st:=List.mem_of_getElem? hf
 obtain ⟨hf1,hf2⟩:=hs.g.l.sl first hfm
 have hfh:=hst first hfm
 have hlp:(s.e.tr.take first).length=first:=by rw [qO];omega
 have hld:((s.e.tr.drop first).reverse).length=s.e.tr.length-first:=by simp
 have hsum:(s.e.tr.take first).length+((s.e.tr.drop first).reverse).length=s.e.tr.length:=by omega
 have hall:s.e.tr.take first++((s.e.tr.drop first).reverse).reverse=s.e.tr:=by rw [List.reverse_reverse,xR]
 obtain ⟨s1,q1,q2,q3,q4,q5,q6,q7,q8,q9,q10,q11,q12,q13,q14,q15,q16,q17⟩:=undo_loop hq hs.g.t (h:=h) (s.e.tr.take first) ((s.e.tr.drop first).reverse) s (by rw [hsum,hall,yC])
  hs.g.t.vl hs.g.t.rl (by rw [hall];exact hs.t) (fun i=>by rw [hsum,kV];simp) (fun l _=>rfl)
 rw [hlp] at q5
 obtain ⟨k1,k2⟩:=iT hs.g.l.sp hf
 have htt:∀j,j≤first→(s.e.tr.take first).take j=s.e.tr.take j:=fun j hj=>by rw [yY,yG hj]
 have hcl:∀c,({ s1.e with tr:=s1.e.tr.take first,st:=s1.e.st.take level,hd:=first }:Eng).cl c=s.e.cl c:=fun c=>by show s1.e.cls.getD c []=_;rw [q7];rfl
 refine ⟨{ s1 with e:={ s1.e with tr:=s1.e.tr.take first,st:=s1.e.st.take level,hd:=first } },?_,?_,rfl,by show s1.e.tr.take first=_;rw [q11],by show s1.e.st.take level=_;rw [q12],q7,q9,q10,q14,q15,q16,q17⟩
 ·unfold backF
  rw [if_neg (by omega)]
  have:s.e.st.getD level 0=first:=by rw [List.getD_eq_getElem?_getD,hf];rfl
  simp only [this]
  rw [if_pos (by omega),q1]
  rfl
 ·refine ⟨⟨?_,fun c hc => ?_,⟨?_,fun s' hs' => ?_,?_,fun p l hp => ?_⟩,⟨fun l c hc => ?_,fun c hc => ?_,fun l => ?_⟩,fun g hg => ?_,fun p l hp hns => ?_⟩,?_,⟨?_,fun c o ho => ?_,?_,?_,fun v hv => ?_⟩⟩
  ·exact hs.g.t.cut (k:=first) q2 q3 (by rw [q10];exact hs.g.t.ll) q5 rfl rfl rfl (by show s1.e.tr.take first=_;rw [q11])
  ·rw [hcl];exact hs.g.c c (by rw [←q7];exact hc)
  ·show (s1.e.st.take level).Pairwise _
   rw [q12];exact hs.g.l.sp.sublist (kN _ _)
  ·have hs2:s'∈s.e.st.take level:=by rw [←q12];exact hs'
   have:=k1 s' hs2
   show s'<(s1.e.tr.take first).length∧s'≤first
   rw [q11,hlp];omega
  ·show first≤(s1.e.tr.take first).length
   rw [q11,hlp];exact Nat.le_refl _
  ·have hp2:(s.e.tr.take first)[p]? = some l:=by rw [←q11];exact hp
   have hpl:=(zG.1 hp2).1
   rw [qX,if_pos (by omega)] at hp2
   show s1.e.lvl.getD _ 0=levAt (s1.e.st.take level) p
   rw [q10,q12,lW hs.g.l.sp hf (by omega)]
   exact hs.g.l.lv p l hp2
  ·have hc2:c∈s.e.wat l:=by rw [←q9];exact hc
   have:=hs.g.w.w1 l c hc2
   unfold Eng.g0 Eng.g1 at *
   rw [hcl]
   show c<s1.e.cls.length∧_∧_∧c∈s1.e.wat _∧c∈s1.e.wat _
   rw [q7,q9];exact this
  ·have hg0:({ s1.e with tr:=s1.e.tr.take first,st:=s1.e.st.take level,hd:=first }:Eng).g0 c=s.e.g0 c:=by unfold Eng.g0;rw [hcl]
   have hg1:({ s1.e with tr:=s1.e.tr.take first,st:=s1.e.st.take level,hd:=first }:Eng).g1 c=s.e.g1 c:=by unfold Eng.g1;rw [hcl]
   have hc2:c∈s1.e.wat (s.e.g0 c):=by rw [←hg0];exact hc
   rw [q9] at hc2
   obtain ⟨a1,a2⟩:=hs.g.w.w3 c hc2
   have key:∀w o,W3c s.e h w o→W3c { s1.e with tr:=s1.e.tr.take first,st:=s1.e.st.take level,hd:=first } first w o:=by
    intro w o hw hm
    have hm2 : -w∈(s1.e.tr.take first).take first:=hm
    rw [q11,htt _ (Nat.le_refl _)] at hm2
    have hmh : -w∈s.e.tr.take h:=by
     have:s.e.tr.take first=(s.e.tr.take h).take first:=by rw [yY,yG hfh]
     rw [this] at hm2
     exact zN hm2
    obtain ⟨b1,b2⟩:=hw hmh
    refine ⟨?_,fun s' hs' hm3 => ?_⟩
    ·show o∈s1.e.tr.take first
     rw [q11];exact b2 first hfm hm2
    ·have hs2:s'∈s.e.st.take level:=by rw [←q12];exact hs'
     have hlt2:=k1 s' hs2
     have hm4 : -w∈(s1.e.tr.take first).take s':=hm3
     show o∈(s1.e.tr.take first).take s'
     rw [q11,htt _ (by omega)] at hm4 ⊢
     exact b2 s' (zN hs2) hm4
   rw [hg0,hg1]
   exact ⟨key _ _ a1,key _ _ a2⟩
  ·show (s1.e.wat l).Nodup
   rw [q9];exact hs.g.w.w4 l
  ·rcases hs.g.i g hg with h|⟨c,h1,h2,h3⟩
   ·exact .inl h
   ·refine .inr ⟨c,by show c<s1.e.cls.length;rw [q7];exact h1,?_,?_⟩
    ·unfold Eng.nmc at *;rw [hcl];exact h2
    ·unfold Eng.g0 at *
     rw [hcl]
     rcases h3 with ⟨h3,h4⟩|⟨l,h3,h4,h5⟩
     ·left;refine ⟨h3,?_⟩;show c∈s1.e.wat _;rw [q9];exact h4
     ·right
      refine ⟨l,h3,?_,fun s' hs' => ?_⟩
      ·show l∈s1.e.tr.take first;rw [q11];exact h5 first hfm
      ·have hs2:s'∈s.e.st.take level:=by rw [←q12];exact hs'
       have hlt2:=k1 s' hs2
       show l∈(s1.e.tr.take first).take s'
       rw [q11,htt _ (by omega)]
       exact h5 s' (zN hs2)
  ·have hp2:(s.e.tr.take first)[p]? = some l:=by rw [←q11];exact hp
   have hpl:=(zG.1 hp2).1
   have hlm:=List.mem_of_getElem? hp2
   rw [qX,if_pos (by omega)] at hp2
   have hns2:p∉s.e.st:=fun hm=>hns (by show p∈s1.e.st.take level;rw [q12];exact k2 p hm (by omega))
   obtain ⟨c,h1,h2,h3,h4⟩:=hs.g.r p l hp2 hns2
   refine ⟨c,by show s1.e.rsn.getD _ 0=_;rw [q6 l hlm];exact h1,by show c<s1.e.cls.length;rw [q7];exact h2,by rw [hcl];exact h3,fun x hx hne => ?_⟩
   rw [hcl] at hx
   show -x∈(s1.e.tr.take first).take p
   rw [q11,htt _ (by omega)]
   exact h4 x hx hne
  ·show ThI f B N s1.num s1.arcs s1.act ((s1.e.tr.take first).take first) Lo
   rw [q11,htt _ (Nat.le_refl _)]
   have:(s.e.tr.take first).take h=s.e.tr.take first:=zU (by omega)
   rw [this] at q4
   exact q4
  ·show s1.org.length=s1.e.cls.length;rw [q14,q7];exact hs.d.ol
  ·have ho2:s.org[c]? = some o:=by rw [←q14];exact ho
   exact (hs.d.dv c o ho2).congr fun k _=>by unfold Eng.nmc;rw [hcl]
  ·show s1.unt.length=B;rw [q15];exact hs.d.ul
  ·show s1.acty.length=B;rw [q16];exact hs.d.al
  ·show s1.unt.getD v 0 = -1∨_
   rw [q15]
   rcases hs.d.un v hv with h|⟨c,h1,h2,l,h3,h4,h5,h6⟩
   ·exact .inl h
   ·refine .inr ⟨c,h1,by show c<s1.e.cls.length;rw [q7];exact h2,l,by rw [hcl];exact h3,h4,?_,fun s' hs' => ?_⟩
    ·show l∈s1.e.tr.take first;rw [q11];exact h6 first hfm
    ·have hs2:s'∈s.e.st.take level:=by rw [←q12];exact hs'
     have hlt2:=k1 s' hs2
     show l∈(s1.e.tr.take first).take s'
     rw [q11,htt _ (by omega)]
     exact h6 s' (zN hs2)
end
end Go.Proofs.Yticieifacalocaa
