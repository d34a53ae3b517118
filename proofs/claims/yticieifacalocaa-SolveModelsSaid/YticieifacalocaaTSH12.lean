/- Low -/
import Derived.Test.YticieifacalocaaTSH10
namespace Go.Proofs.Yticieifacalocaa
structure Arc where
 lit:Int
 x:Int
 y:Int
 c:Int
deriving DecidableEq
instance:Inhabited Arc:=⟨⟨0,0,0,0⟩⟩
def Arc.fit (N:Nat) (M:Int) (a:Arc):Prop:=0≤a.x∧a.x<N∧0≤a.y∧a.y<N∧a.x≠a.y ∧ -M≤a.c∧a.c≤M
def ga (bs:List Arc) (v:Int):Arc:=bs.getD v.toNat default
theorem cU {bs:List Arc} {v u:Int} {a:Arc} (h0:0≤v) (h1:v<bs.length) (hu:0≤u):ga (bs.set v.toNat a) u=if u=v then a else ga bs u:=by
 unfold ga
 by_cases h:u=v
 ·subst h;rw [if_pos rfl,List.getD_eq_getElem?_getD,xM (by omega)];rfl
 ·rw [if_neg h,List.getD_eq_getElem?_getD,List.getD_eq_getElem?_getD,yQ (by omega)]
inductive BkTo (N:Nat) (old:Arc→Prop) (by_:List Arc) (num:List Int) (r:Int):Int→List Arc→Prop
 | root:BkTo N old by_ num r r []
 | step {v:Int} {b:Arc} {l:List Arc}:0≤v→v<N→v≠r→ga by_ v=b→old b→b.x=v→gi num v≥gi num b.y+b.c→BkTo N old by_ num r b.y l→BkTo N old by_ num r v (b::l)
def sumC (l:List Arc):Int:=(l.map Arc.c).sum
theorem dZ (b:Arc) (l:List Arc):sumC (b::l)=b.c+sumC l:=by simp [sumC]
theorem pT (a b:List Arc):sumC (a++b)=sumC a+sumC b:=by simp [sumC]
section
variable {N:Nat} {old:Arc→Prop} {by_ by2:List Arc} {num num2 π:List Int} {r:Int}
theorem BkTo.numGe {v:Int} {l:List Arc} (h:BkTo N old by_ num r v l):gi num v≥gi num r+sumC l:=by
 induction h with
 | root=>simp [sumC]
 | step _ _ _ _ _ _ hn _ ih=>rw [dZ];omega
theorem BkTo.pot (hp:∀b,old b→gi π b.x≤gi π b.y+b.c) {v:Int} {l:List Arc} (h:BkTo N old by_ num r v l):gi π v≤gi π r+sumC l:=by
 induction h with
 | root=>simp [sumC]
 | step _ _ _ _ ho hx _ _ ih=>rw [dZ];have:=hp _ ho;rw [hx] at this;omega
theorem BkTo.fun_ {v:Int} {l m:List Arc} (h:BkTo N old by_ num r v l) (h2:BkTo N old by_ num r v m):l=m:=by
 induction h generalizing m with
 | root=>cases h2 with
  | root=>rfl
  | step _ _ hne=>exact absurd rfl hne
 | step _ _ hne hb _ _ _ _ ih=>cases h2 with
  | root=>exact absurd rfl hne
  | step _ _ _ hb2 _ _ _ h3 =>
   have e:=hb.symm.trans hb2
   subst e
   rw [ih h3]
theorem BkTo.split {v:Int} {l:List Arc} (h:BkTo N old by_ num r v l) {b:Arc} (hb:b∈l):∃l1 l2,l=l1++b::l2∧BkTo N old by_ num r b.x (b::l2)∧gi num v≥gi num b.x+sumC l1∧(∀{π:List Int},(∀b,old b→gi π b.x≤gi π b.y+b.c)→gi π v≤gi π b.x+sumC l1):=by
 induction h with
 | root=>cases hb
 | @step v b0 l h0 h1 hne hby ho hx hn hr ih =>
  rcases zV.1 hb with rfl|hb
  ·exact ⟨[],l,rfl,by rw [hx];exact .step h0 h1 hne hby ho hx hn hr,by rw [hx];simp [sumC],by rw [hx];simp [sumC]⟩
  ·obtain ⟨l1,l2,rfl,e2,e3,e4⟩:=ih hb
   refine ⟨b0::l1,l2,rfl,e2,by rw [dZ];omega,fun hp => ?_⟩
   have:=e4 hp
   have h2:=hp _ ho
   rw [hx] at h2
   rw [dZ];omega
theorem BkTo.olds {v:Int} {l:List Arc} (h:BkTo N old by_ num r v l):∀b∈l,old b:=by
 induction h with
 | root=>simp
 | step _ _ _ _ ho _ _ _ ih=>intro b hb;rcases zV.1 hb with rfl|hb;exact ho;exact ih b hb
theorem BkTo.range {v:Int} {l:List Arc} (h:BkTo N old by_ num r v l):∀b∈l,0≤b.x∧b.x<N∧b.x≠r:=by
 induction h with
 | root=>simp
 | step h0 h1 hne _ _ hx _ _ ih=>intro b hb;rcases zV.1 hb with rfl|hb;exact ⟨by omega,by omega,by omega⟩;exact ih b hb
theorem BkTo.nodup {v:Int} {l:List Arc} (h:BkTo N old by_ num r v l):(l.map Arc.x).Nodup:=by
 induction h with
 | root=>simp
 | @step v b l h0 h1 hne hby ho hx hn hr ih =>
  rw [qC,yU]
  refine ⟨fun hm => ?_,ih⟩
  obtain ⟨b2,hb2,e⟩:=List.mem_map.1 hm
  obtain ⟨l1,l2,rfl,e2, -⟩:=hr.split hb2
  have h3:BkTo N old by_ num r b2.x (b::(l1++b2::l2)):=by rw [e,hx];exact .step h0 h1 hne hby ho hx hn hr
  have:=congrArg List.length (e2.fun_ h3)
  simp at this
  omega
theorem bX {N:Nat} {l:List Nat} (h:l.Nodup) (hr:∀x∈l,x<N):l.length≤N:=by
 induction N generalizing l with
 | zero =>
  cases l with
  | nil=>simp
  | cons x r=>have:=hr x (by simp);omega
 | succ N ih =>
  have h2:=ih (h.erase N) (fun x hx=>by
   have h3:=hr x (List.mem_of_mem_erase hx)
   have h4:x≠N:=fun e=>by subst e;exact (List.Nodup.not_mem_erase h) hx
   omega)
  by_cases hm:N∈l
  ·rw [List.length_erase_of_mem hm] at h2;omega
  ·rw [List.erase_of_not_mem hm] at h2;omega
theorem dI {l:List Int} {N:Nat} (h:l.Nodup) (hr:∀x∈l,0≤x∧x<N):l.length≤N:=by
 have h1:(l.map Int.toNat).Nodup:=by
  unfold List.Nodup at h ⊢
  rw [yO]
  refine xZ (fun {a b} ha hb hne e=>hne ?_) h
  have:=hr a ha;have:=hr b hb;omega
 have:=bX (N:=N) h1 (fun x hx=>by
  obtain ⟨y,hy,rfl⟩:=List.mem_map.1 hx
  have:=hr y hy
  omega)
 simpa using this
theorem BkTo.len {v:Int} {l:List Arc} (h:BkTo N old by_ num r v l):l.length≤N:=by
 have:=dI (N:=N) h.nodup (fun x hx=>by obtain ⟨b,hb,rfl⟩:=List.mem_map.1 hx;exact ⟨(h.range b hb).1,(h.range b hb).2.1⟩)
 simpa using this
theorem sumC_ge {l:List Arc} {M:Int} (h:∀b∈l, -M≤b.c):sumC l ≥ -(M * l.length):=by
 induction l with
 | nil=>simp [sumC]
 | cons b l ih =>
  rw [dZ]
  have h1:=h b (by simp)
  have h2:=ih fun c hc=>h c (by simp [hc])
  rw [qJ]
  have:M * ((l.length+1:Nat):Int)=M * l.length+M:=by rw [uT];rw [kG];simp
  omega
theorem BkTo.lower {b:Arc} {l:List Arc} (hlen:num.length=N) (hbl:by_.length=N) (h0:0≤b.x) (h1:b.x<N) (hne:b.x≠r) (hold:old b)
  (hb:BkTo N old by_ num r b.y l) (hnot:b.x∉l.map Arc.x) (hlow:gi num b.y+b.c<gi num b.x) (hyr:0≤b.y) (hxy:b.x≠b.y) (hoy:∀b,old b→0≤b.y) {v:Int} {m:List Arc} (h:BkTo N old by_ num r v m) :
  ∃m',BkTo N old (by_.set b.x.toNat b) (num.set b.x.toNat (gi num b.y+b.c)) r v m':=by
 have keep:∀{v:Int} {m:List Arc},0≤v→BkTo N old by_ num r v m→b.x∉m.map Arc.x→BkTo N old (by_.set b.x.toNat b) (num.set b.x.toNat (gi num b.y+b.c)) r v m:=by
  intro v m hv h
  induction h with
  | root=>intro _;exact .root
  | @step v b0 m g0 g1 gne gby go gx gn gr ih =>
   intro hm
   rw [qC,zV,jG] at hm
   have hvx:v≠b.x:=by omega
   have hy0:=hoy b0 go
   refine .step g0 g1 gne ?_ go gx ?_ (ih hy0 hm.2)
   ·rw [cU h0 (by omega) g0,if_neg hvx];exact gby
   ·rw [dW h0 (by omega) g0,if_neg hvx,dW h0 (by omega) hy0]
    split
    ·rename_i e;rw [e] at gn;omega
    ·exact gn
 have hbx:BkTo N old (by_.set b.x.toNat b) (num.set b.x.toNat (gi num b.y+b.c)) r b.x (b::l):=by
  refine .step h0 h1 hne ?_ hold rfl ?_ (keep hyr hb hnot)
  ·rw [cU h0 (by omega) h0,if_pos rfl]
  ·rw [dW h0 (by omega) h0,if_pos rfl,dW h0 (by omega) hyr,if_neg (fun e=>hxy e.symm)];exact yM _
 induction h with
 | root=>exact ⟨[], .root⟩
 | @step v b0 m g0 g1 gne gby go gx gn gr ih =>
  by_cases hvx:v=b.x
  ·subst hvx;exact ⟨_,hbx⟩
  ·obtain ⟨m',hm'⟩:=ih
   have hy0:=hoy b0 go
   refine ⟨b0::m', .step g0 g1 gne ?_ go gx ?_ hm'⟩
   ·rw [cU h0 (by omega) g0,if_neg hvx];exact gby
   ·rw [dW h0 (by omega) g0,if_neg hvx,dW h0 (by omega) hy0]
    split
    ·rename_i e;rw [e] at gn;omega
    ·exact gn
end
structure Low (N:Nat) (M:Int) (old:Arc→Prop) (π:List Int) (a:Arc) (num:List Int) (by_:List Arc) (wait:List Bool) (q:List Int) (Pend:Arc→Prop):Prop where
 ln:num.length=N
 lb:by_.length=N
 lw:wait.length=N
 le:∀v:Int,0≤v→v<N→gi num v≤gi π v
 root:gi num a.x=gi π a.y+a.c
 rlow:gi num a.x<gi π a.x
 rby:ga by_ a.x=a
 back:∀v:Int,0≤v→v<N→gi num v≠gi π v→∃l,BkTo N old by_ num a.x v l
 ay:gi num a.y=gi π a.y
 qn:q.Nodup
 qr:∀v∈q,0≤v∧v<N∧gi num v≠gi π v
 wq:∀v:Int,0≤v→v<N→v≠a.x→(wait.getD v.toNat false=true↔v∈q)
 sat:∀b,old b→gi num b.x≤gi num b.y+b.c∨b.y∈q∨Pend b
structure LowQ (N:Nat) (M:Int) (old:Arc→Prop) (π:List Int) (a:Arc):Prop where
 fit:a.fit N M
 fits:∀b,old b→b.fit N M
 ln:π.length=N
 sat:∀b,old b→gi π b.x≤gi π b.y+b.c
 viol:gi π a.y+a.c<gi π a.x
inductive ByWay (N:Nat) (by_:List Arc) (r:Int):Int→List Arc→Prop
 | root:ByWay N by_ r r []
 | step {v:Int} {b:Arc} {l:List Arc}:0≤v→v<N→v≠r→ga by_ v=b→b.x=v→ByWay N by_ r b.y l→ByWay N by_ r v (b::l)
structure NegCyc (N:Nat) (old:Arc→Prop) (a:Arc) (l:List Arc):Prop where
 olds:∀b∈l,old b
 nd:((l++[a]).map Arc.x).Nodup
 neg:sumC l+a.c<0
 link:∀(i:Nat) (b c:Arc),i<(l++[a]).length→(l++[a])[i]? = some b→(l++[a])[(i+1) % (l++[a]).length]? = some c→b.y=c.x
section
variable {N:Nat} {M:Int} {old:Arc→Prop} {by_:List Arc} {num π:List Int} {wait:List Bool} {q:List Int} {a:Arc} {Pend:Arc→Prop}
theorem wG {α:Type} (l:List α) (i j:Nat) (x d:α) (hi:i<l.length):(l.set i x).getD j d=if j=i then x else l.getD j d:=by
 rw [List.getD_eq_getElem?_getD,kM]
 by_cases h:i=j
 ·subst h;rw [if_pos rfl,if_pos hi,if_pos rfl];rfl
 ·rw [if_neg h,if_neg (fun e=>h e.symm),List.getD_eq_getElem?_getD]
theorem Low.start (hq:LowQ N M old π a):Low N M old π a (π.set a.x.toNat (gi π a.y+a.c)) ((List.replicate N default).set a.x.toNat a) (List.replicate N false) [a.x] (fun _=>False):=by
 obtain ⟨f1,f2,f3,f4,f5,f6,f7⟩:=hq.fit
 have hv:=hq.viol
 have hl:=hq.ln
 have gn:∀v,0≤v→gi (π.set a.x.toNat (gi π a.y+a.c)) v=if v=a.x then gi π a.y+a.c else gi π v:=fun v h0=>dW f1 (by omega) h0
 refine ⟨by simp [hl],by simp,by simp,fun v h0 h1 => ?_,?_,?_,?_,fun v h0 h1 hne => ?_,?_,by simp,fun v hm => ?_,fun v h0 h1 hne => ?_,fun b hb => ?_⟩
 ·rw [gn v h0];split
  ·rename_i e;rw [e];omega
  ·exact yM _
 ·rw [gn _ f1,if_pos rfl]
 ·rw [gn _ f1,if_pos rfl];exact hv
 ·rw [cU f1 (by simp;omega) f1,if_pos rfl]
 ·rw [gn v h0] at hne
  split at hne
  ·rename_i e;subst e;exact ⟨[], .root⟩
  ·exact absurd rfl hne
 ·rw [gn _ f3,if_neg (fun e=>f5 e.symm)]
 ·rw [zH] at hm;subst hm
  rw [gn _ f1,if_pos rfl]
  exact ⟨f1,f2,by omega⟩
 ·rw [zH,List.getD_eq_getElem?_getD,List.getElem?_replicate]
  split<;>simp [hne]
 ·obtain ⟨g1,g2,g3,g4,g5,g6,g7⟩:=hq.fits b hb
  have hs:=hq.sat b hb
  rw [gn _ g1,gn _ g3]
  by_cases e:b.y=a.x
  ·exact .inr (.inl (by simp [e]))
  ·left
   rw [if_neg e]
   split
   ·rename_i e2;rw [e2] at hs;omega
   ·exact hs
theorem Low.pop {n:Int} (h:Low N M old π a num by_ wait (n::q) (fun _=>False)):Low N M old π a num by_ (wait.set n.toNat false) q (fun b=>b.y=n):=by
 obtain ⟨h0,h1,h2⟩:=h.qr n (by simp)
 have hnd:=h.qn
 rw [yU] at hnd
 refine ⟨h.ln,h.lb,by simp [h.lw],h.le,h.root,h.rlow,h.rby,h.back,h.ay,hnd.2,fun v hv=>h.qr v (by simp [hv]),fun v v0 v1 hne => ?_,fun b hb => ?_⟩
 ·rw [wG _ _ _ _ _ (by have:=h.lw;omega)]
  by_cases e:v=n
  ·subst e;rw [if_pos rfl];simp [hnd.1]
  ·rw [if_neg (by omega),h.wq v v0 v1 hne,zV]
   simp [e]
 ·rcases h.sat b hb with h|h|h
  ·exact .inl h
  ·rcases zV.1 h with h|h
   ·exact .inr (.inr h)
   ·exact .inr (.inl h)
  ·exact h.elim
theorem LowQ.off (hq:LowQ N M old π a) {b:Arc} (hb:old b) {l:List Arc} (hl:BkTo N old by_ num a.x b.y l) (hlow:gi num b.y+b.c<gi num b.x):b.x≠a.x∧b.x∉l.map Arc.x:=by
 have hs:=hq.sat b hb
 constructor
 ·intro e
  have h1:=hl.numGe
  have h2:=hl.pot hq.sat
  rw [e] at hs hlow
  omega
 ·intro hm
  obtain ⟨b2,hb2,e⟩:=List.mem_map.1 hm
  obtain ⟨l1,l2, -, -,e3,e4⟩:=hl.split hb2
  have:=e4 hq.sat
  rw [e] at e3 this
  omega
theorem Low.met {b:Arc} {P2:Arc→Prop} (h:Low N M old π a num by_ wait q Pend) (hp:∀c,old c→Pend c→c=b∨P2 c) (hok:gi num b.x≤gi num b.y+b.c):Low N M old π a num by_ wait q P2 :=
 ⟨h.ln,h.lb,h.lw,h.le,h.root,h.rlow,h.rby,h.back,h.ay,h.qn,h.qr,h.wq,fun c hc=>by
  rcases h.sat c hc with h|h|h
  ·exact .inl h
  ·exact .inr (.inl h)
  ·rcases hp c hc h with e|h
   ·subst e;exact .inl hok
   ·exact .inr (.inr h)⟩
theorem Low.lower (hq:LowQ N M old π a) {b:Arc} {P2:Arc→Prop} (h:Low N M old π a num by_ wait q Pend) (hb:old b) (hn:gi num b.y≠gi π b.y) (hp:∀c,old c→Pend c→c=b∨P2 c) (hlow:gi num b.y+b.c<gi num b.x) (hay:b.x≠a.y) {wait2:List Bool} {q2:List Int}
  (hw2:wait2=if wait.getD b.x.toNat false=true then wait else wait.set b.x.toNat true) (hq2:q2=if wait.getD b.x.toNat false=true then q else q++[b.x]) :
  Low N M old π a (num.set b.x.toNat (gi num b.y+b.c)) (by_.set b.x.toNat b) wait2 q2 P2:=by
 obtain ⟨f1,f2,f3,f4,f5,f6,f7⟩:=hq.fits b hb
 obtain ⟨a1,a2,a3,a4,a5,a6,a7⟩:=hq.fit
 obtain ⟨l,hl⟩:=h.back b.y f3 f4 hn
 obtain ⟨hx,hoff⟩:=hq.off hb hl hlow
 have hln:=h.ln
 have hlb:=h.lb
 have hlw:=h.lw
 have gn:∀v,0≤v→gi (num.set b.x.toNat (gi num b.y+b.c)) v=if v=b.x then gi num b.y+b.c else gi num v:=fun v h0=>dW f1 (by omega) h0
 have hqx:wait.getD b.x.toNat false=true↔b.x∈q:=h.wq b.x f1 f2 hx
 have hmem:∀v,v∈q2↔v=b.x∨v∈q:=by
  intro v
  rw [hq2]
  split
  ·rename_i e
   constructor
   ·exact .inr
   ·rintro (rfl|h)
    ·exact hqx.1 e
    ·exact h
  ·rw [zK,zH,or_comm]
 refine ⟨by simp [hln],by simp [hlb],?_,fun v h0 h1 => ?_,?_,?_,?_,fun v h0 h1 hne => ?_,?_,?_,fun v hm => ?_,fun v h0 h1 hne => ?_,fun c hc => ?_⟩
 ·rw [hw2];split<;>simp [hlw]
 ·rw [gn v h0]
  have:=h.le v h0 h1
  split
  ·rename_i e;subst e;omega
  ·exact this
 ·rw [gn _ a1,if_neg (fun e=>hx e.symm)];exact h.root
 ·rw [gn _ a1,if_neg (fun e=>hx e.symm)];exact h.rlow
 ·rw [cU f1 (by omega) a1,if_neg (fun e=>hx e.symm)];exact h.rby
 ·rw [gn v h0] at hne
  have hv:gi num v≠gi π v∨v=b.x:=by
   split at hne
   ·rename_i e;exact .inr e
   ·exact .inl hne
  have hyo:∀b,old b→0≤b.y:=fun b hb=>(hq.fits b hb).2.2.1
  have hdo:∀v m,BkTo N old by_ num a.x v m→∃m',BkTo N old (by_.set b.x.toNat b) (num.set b.x.toNat (gi num b.y+b.c)) a.x v m' :=
   fun v m hm=>BkTo.lower hln hlb f1 f2 hx hb hl hoff hlow f3 f5 hyo hm
  rcases hv with hv|e
  ·obtain ⟨m,hm⟩:=h.back v h0 h1 hv
   exact hdo v m hm
  ·subst e
   obtain ⟨m,hm⟩:=hdo b.y l hl
   refine ⟨b::m, .step f1 f2 hx ?_ hb rfl ?_ hm⟩
   ·rw [cU f1 (by omega) f1,if_pos rfl]
   ·rw [gn _ f1,if_pos rfl,gn _ f3,if_neg (fun e=>f5 e.symm)];exact yM _
 ·rw [gn _ a3,if_neg (fun e=>hay e.symm)];exact h.ay
 ·rw [hq2]
  split
  ·exact h.qn
  ·rename_i e
   rw [qG]
   refine ⟨h.qn,by simp,fun x hx1 y hy e2 => ?_⟩
   rw [zH] at hy
   subst e2 hy
   exact e (hqx.2 hx1)
 ·rcases (hmem v).1 hm with rfl|hm
  ·refine ⟨f1,f2,?_⟩
   rw [gn _ f1,if_pos rfl]
   have:=h.le b.x f1 f2
   omega
  ·obtain ⟨v0,v1,v2⟩:=h.qr v hm
   refine ⟨v0,v1,?_⟩
   rw [gn v v0]
   have:=h.le b.x f1 f2
   split
   ·rename_i e;subst e;omega
   ·exact v2
 ·rw [hmem,hw2]
  split
  ·rename_i e
   rw [h.wq v h0 h1 hne]
   constructor
   ·exact .inr
   ·rintro (rfl|h)
    ·exact hqx.1 e
    ·exact h
  ·rw [wG _ _ _ _ _ (by omega)]
   by_cases e:v=b.x
   ·subst e;simp
   ·rw [if_neg (by omega),h.wq v h0 h1 hne]
    simp [e]
 ·obtain ⟨g1,g2,g3,g4,g5,g6,g7⟩:=hq.fits c hc
  by_cases e:c.y=b.x
  ·exact .inr (.inl ((hmem _).2 (.inl e)))
  ·rw [gn _ g1,gn _ g3,if_neg e]
   rcases h.sat c hc with h1|h1|h1
   ·left
    split
    ·rename_i e2;rw [←e2] at hlow;omega
    ·exact h1
   ·exact .inr (.inl ((hmem _).2 (.inr h1)))
   ·rcases hp c hc h1 with e3|h1
    ·subst e3
     left;rw [if_pos rfl];exact yM _
    ·exact .inr (.inr h1)
theorem Low.cycle (hq:LowQ N M old π a) {b:Arc} (h:Low N M old π a num by_ wait q Pend) (hb:old b) (hn:gi num b.y≠gi π b.y) (hlow:gi num b.y+b.c<gi num b.x) (hay:b.x=a.y) :
  ∃l,ByWay N (by_.set b.x.toNat b) a.x a.y l∧NegCyc N old a l∧l.length≤N:=by
 obtain ⟨f1,f2,f3,f4,f5,f6,f7⟩:=hq.fits b hb
 obtain ⟨a1,a2,a3,a4,a5,a6,a7⟩:=hq.fit
 obtain ⟨l,hl⟩:=h.back b.y f3 f4 hn
 obtain ⟨hx,hoff⟩:=hq.off hb hl hlow
 have hlb:=h.lb
 have way:∀{v:Int} {m:List Arc},BkTo N old by_ num a.x v m→b.x∉m.map Arc.x→ByWay N (by_.set b.x.toNat b) a.x v m:=by
  intro v m hm
  induction hm with
  | root=>intro _;exact .root
  | @step v c m h0 h1 hne hby ho hcx hn2 hr ih =>
   intro hmm
   rw [qC,zV,jG] at hmm
   refine .step h0 h1 hne ?_ hcx (ih hmm.2)
   rw [cU f1 (by omega) h0,if_neg (by omega)];exact hby
 have hnd:(((b::l)++[a]).map Arc.x).Nodup:=by
  rw [List.map_append,qG]
  refine ⟨by rw [qC,yU];exact ⟨hoff,hl.nodup⟩,by simp,fun x hx1 y hy e => ?_⟩
  simp only [qC,xU,zH] at hy
  rw [hy] at e
  rw [qC,zV] at hx1
  rcases hx1 with e2|hm
  ·omega
  ·obtain ⟨c,hc,e2⟩:=List.mem_map.1 hm
   exact (hl.range c hc).2.2 (by omega)
 refine ⟨b::l,?_,⟨?_,hnd,?_,?_⟩,?_⟩
 ·rw [←hay]
  refine .step f1 f2 hx ?_ rfl (way hl hoff)
  rw [cU f1 (by omega) f1,if_pos rfl]
 ·intro c hc
  rcases zV.1 hc with rfl|hc
  ·exact hb
  ·exact hl.olds c hc
 ·rw [dZ]
  have h1:=hl.numGe
  have h2:=h.root
  have h3:=h.ay
  rw [hay] at hlow
  omega
 ·
  have hfst:∀{v:Int} {m:List Arc} {d:Arc},BkTo N old by_ num a.x v m→(m++[a])[0]? = some d→v=d.x:=by
   intro v m d hm h2
   cases hm with
   | root=>simp at h2;rw [←h2]
   | step _ _ _ _ _ hx2=>simp at h2;rw [←h2];omega
  have hlk:∀{v:Int} {m:List Arc},BkTo N old by_ num a.x v m→∀(i:Nat) (c d:Arc),(m++[a])[i]? = some c→(m++[a])[i+1]? = some d→c.y=d.x:=by
   intro v m hm
   induction hm with
   | root=>intro i c d h1 h2;simp at h2
   | @step v c0 m h0 h1 hne hby ho hcx hn2 hr ih =>
    intro i c d h1 h2
    cases i with
    | zero =>
     simp only [qT,zB,Option.some.injEq] at h1
     subst h1
     rw [qT,zC] at h2
     exact hfst hr h2
    | succ i =>
     rw [qT,zC] at h1 h2
     exact ih i c d h1 h2
  intro i c d hi h1 h2
  have hlen:((b::l)++[a]).length=l.length+2:=by simp
  by_cases e:i=l.length+1
  ·subst e
   rw [hlen,Nat.mod_self] at h2
   have e1:d=b:=by simpa using h2.symm
   have e2:c=a:=by
    rw [zL (by simp)] at h1
    simpa using h1.symm
   rw [e1,e2,hay]
  ·rw [hlen,uK (by omega)] at h2
   cases i with
   | zero =>
    simp only [qT,zB,Option.some.injEq] at h1
    subst h1
    rw [qT,zC] at h2
    exact hfst hl h2
   | succ i =>
    rw [qT,zC] at h1 h2
    exact hlk hl i c d h1 h2
 ·have:=dI (N:=N) (l:=(b::l).map Arc.x) (by rw [qC,yU];exact ⟨hoff,hl.nodup⟩) (fun x hx1=>by
   rw [qC,zV] at hx1
   rcases hx1 with e|hm
   ·omega
   ·obtain ⟨c,hc,e2⟩:=List.mem_map.1 hm
    have:=hl.range c hc
    omega)
  simpa using this
theorem Low.ge (hq:LowQ N M old π a) (h:Low N M old π a num by_ wait q Pend) {m:Int} (hm:∀v:Int,0≤v→v<N→m≤gi π v) (hM:0≤M):∀v:Int,0≤v→v<N→m-M * (N+1)≤gi num v:=by
 intro v h0 h1
 obtain ⟨a1,a2,a3,a4,a5,a6,a7⟩:=hq.fit
 have hmul:M * ((N:Int)+1)=M * N+M:=by rw [kG];simp
 have h4:0≤M * (N:Int):=Int.mul_nonneg hM (by omega)
 by_cases e:gi num v=gi π v
 ·rw [e]
  have h3:=hm v h0 h1
  omega
 ·obtain ⟨l,hl⟩:=h.back v h0 h1 e
  have h2:=hl.numGe
  have h3:=sumC_ge (M:=M) (l:=l) (fun b hb=>(hq.fits b (hl.olds b hb)).2.2.2.2.2.1)
  have h5:M * (l.length:Int)≤M * N:=kH (by have:=hl.len;omega) hM
  have h6:=h.root
  have h7:=hm a.y a3 a4
  omega
theorem sum_set {l:List Int} {i:Nat} {x:Int} (h:i<l.length):(l.set i x).sum=l.sum-l.getD i 0+x:=by
 induction l generalizing i with
 | nil=>simp at h
 | cons y r ih =>
  cases i with
  | zero=>simp;omega
  | succ i =>
   have:=ih (i:=i) (by simpa using h)
   simp at this ⊢;omega
theorem sum_ge {l:List Int} {m:Int} (h:∀x∈l,m≤x):m * l.length≤l.sum:=by
 induction l with
 | nil=>simp
 | cons y r ih =>
  have h1:=h y (by simp)
  have h2:=ih fun x hx=>h x (by simp [hx])
  rw [qJ,vB]
  have:m * ((r.length+1:Nat):Int)=m * r.length+m:=by rw [uT,kG];simp
  omega
theorem gi_mem {l:List Int} {P:Int→Prop} (h:∀v:Int,0≤v→v<l.length→P (gi l v)):∀x∈l,P x:=by
 intro x hx
 obtain ⟨i,hi,rfl⟩:=qL hx
 have:=h i (by omega) (by omega)
 unfold gi at this
 rwa [List.getD_eq_getElem?_getD,Int.toNat_natCast,List.getElem?_eq_getElem hi] at this
def lowLeft (N:Nat) (B:Int) (num:List Int) (q:List Int):Nat:=2 * (num.sum-B * N).toNat+q.length
theorem Low.queue (h:Low N M old π a num by_ wait q Pend):q.length≤N:=dI h.qn fun v hv=>⟨(h.qr v hv).1,(h.qr v hv).2.1⟩
theorem mK {B:Int} {b:Arc} (hln:num.length=N) (h0:0≤b.x) (h1:b.x<N) (hlow:gi num b.y+b.c<gi num b.x) (hB:B * N≤(num.set b.x.toNat (gi num b.y+b.c)).sum) {q2:List Int} (hq2:q2.length≤q.length+1) :
  lowLeft N B (num.set b.x.toNat (gi num b.y+b.c)) q2<lowLeft N B num q:=by
 unfold lowLeft
 have h:=sum_set (l:=num) (i:=b.x.toNat) (x:=gi num b.y+b.c) (by omega)
 have:num.getD b.x.toNat 0=gi num b.x:=rfl
 rw [this] at h
 omega
theorem Low.done (h:Low N M old π a num by_ wait [] (fun _=>False)):gi num a.x≤gi num a.y+a.c∧∀b,old b→gi num b.x≤gi num b.y+b.c:=by
 refine ⟨by rw [h.root,h.ay];exact yM _,fun b hb => ?_⟩
 rcases h.sat b hb with h|h|h
 ·exact h
 ·simp at h
 ·exact h.elim
end
end Go.Proofs.Yticieifacalocaa
