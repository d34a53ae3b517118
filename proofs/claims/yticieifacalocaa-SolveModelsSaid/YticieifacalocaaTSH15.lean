/- SolTheo -/
import Derived.Test.YticieifacalocaaTSH14
namespace Go.Proofs.Yticieifacalocaa
structure SolQ (f:Form) (B N:Nat):Prop where
 b:f.bools=B
 n:f.ints=N
 bl:B≤1024
 nl:N≤32
 al:f.atoms.length≤B
 at_:∀d∈f.atoms,0≤d.x∧d.x<N∧0≤d.y∧d.y<N∧d.x≠d.y ∧ -1048576≤d.c∧d.c≤1048576
 cs:∀c∈f.clauses,∀x∈c,litB B x=true
 cl:f.clauses.length≤32768
def arcOf (f:Form) (l:Int):Option Arc:=(bound f.atoms l).map fun d=>⟨l,d.x,d.y,d.c⟩
section
variable {f:Form} {B N:Nat}
theorem dY (hq:SolQ f B N) {l:Int} {d:Diff} (h:bound f.atoms l=some d):0≤d.x∧d.x<N∧0≤d.y∧d.y<N∧d.x≠d.y ∧ -1048577≤d.c∧d.c≤1048577:=by
 unfold bound at h
 split at h
 ·obtain ⟨h1,h2,h3,h4,h5,h6,h7⟩:=hq.at_ d (List.mem_of_getElem? h)
  exact ⟨h1,h2,h3,h4,h5,by omega,by omega⟩
 ·split at h
  ·obtain ⟨d0,h0,rfl⟩:=qR.1 h
   obtain ⟨h1,h2,h3,h4,h5,h6,h7⟩:=hq.at_ d0 (List.mem_of_getElem? h0)
   simp only [Diff.opp]
   exact ⟨h3,h4,h1,h2,fun e=>h5 e.symm,by omega,by omega⟩
  ·cases h
theorem bV (hq:SolQ f B N) {l:Int} {a:Arc} (h:arcOf f l=some a):a.fit N 1048577∧a.lit=l∧bound f.atoms l=some ⟨a.x,a.y,a.c⟩:=by
 unfold arcOf at h
 obtain ⟨d,hd,rfl⟩:=qR.1 h
 exact ⟨dY hq hd,rfl,hd⟩
theorem sE {l:Int} {d:Diff} (h:bound f.atoms l=some d):l≠0∧vr l<f.atoms.length:=by
 unfold bound at h
 split at h
 ·have:=(zG.1 h).1
  unfold vr;omega
 ·split at h
  ·obtain ⟨d0,h0,rfl⟩:=qR.1 h
   have:=(zG.1 h0).1
   unfold vr;omega
  ·cases h
structure ThI (f:Form) (B N:Nat) (num:List Int) (arcs:List (List Arc)) (act:List Bool) (ins:List Int) (Lo:Int):Prop where
 nl:num.length=N
 al:arcs.length=N
 cl:act.length=B
 ar:∀y:Nat,y<N→arcs.getD y []=(ins.filterMap (arcOf f)).filter fun a=>decide (a.y=(y:Int))
 ac:∀v:Nat,v<B→(act.getD v false=true↔∃l∈ins,vr l=v∧(bound f.atoms l).isSome=true)
 sat:∀a∈ins.filterMap (arcOf f),gi num a.x≤gi num a.y+a.c
 lo:∀v:Int,0≤v→v<N → -Lo≤gi num v∧gi num v≤31
structure CycOk (f:Form) (B:Nat) (ins:List Int) (lit:Int) (lits:List Int):Prop where
 ds:∃ds,iF f.atoms lits=some ds∧Cyc ds
 sub:∀l∈lits,l∈ins∨l=lit
 has:lit∈lits
 nd:lits.Nodup
 len:lits.length≤1000
theorem sV {N:Nat} {old:Arc→Prop} {π:List Int} {a:Arc} {m:Int} (hq:LowQ N 1048577 old π a) (hN:N≤32) (hm:∀v:Int,0≤v→v<N→m≤gi π v) (hlo : -576460752303423488≤m) (hhi:∀v:Int,0≤v→v<N→gi π v≤31) {n:Int} (h0:0≤n) (h1:n<N) :
  ∀(l:List Arc) (num:List Int) (by_:List Arc) (wait:List Bool) (q:List Int),(∀b∈l,old b∧b.y=n)→gi num n≠gi π n→Low N 1048577 old π a num by_ wait q (fun b=>b∈l) →
   (∃num2 by2 wait2 q2,gB a.y n l num by_ wait q=some (.inl (num2,by2,wait2,q2))∧Low N 1048577 old π a num2 by2 wait2 q2 (fun _=>False)∧lowLeft N (m-1048577 * (N+1)) num2 q2≤lowLeft N (m-1048577 * (N+1)) num q) ∨
   (∃by2,gB a.y n l num by_ wait q=some (.inr by2)∧∃l,ByWay N by2 a.x a.y l∧NegCyc N old a l∧l.length≤N∧by2.length=N):=by
 intro l
 induction l with
 | nil=>intro num by_ wait q _ _ h;exact .inl ⟨num,by_,wait,q,rfl,h.met (b:=a) (fun c _ hc=>by simp at hc) (by rw [h.root,h.ay];exact yM _),Nat.le_refl _⟩
 | cons b l ih =>
  intro num by_ wait q hl hn h
  obtain ⟨hb,hby⟩:=hl b (by simp)
  obtain ⟨f1,f2,f3,f4,f5,f6,f7⟩:=hq.fits b hb
  have hln:=h.ln
  have hlw:=h.ge hq hm (by omega)
  have hle:=h.le
  have hNi:(N:Int)≤32:=by omega
  have hin:iK (gi num n)=true:=by
   have:=hlw n h0 h1
   have:=hle n h0 h1
   have:=hhi n h0 h1
   simp only [iK,qI]
   omega
  have harc:rJ num.length b=true:=by simp only [rJ,qI];omega
  rw [gB,if_pos ⟨harc,hin⟩]
  subst hby
  by_cases hc:gi num b.x≤gi num b.y+b.c
  ·rw [if_pos hc]
   exact ih num by_ wait q (fun c hc=>hl c (by simp [hc])) hn (h.met (b:=b) (fun c _ hc=>by rcases zV.1 hc with e|e;exact .inl e;exact .inr e) hc)
  ·rw [if_neg hc]
   by_cases hay:b.x=a.y
   ·rw [if_pos hay]
    obtain ⟨l2,k1,k2,k3⟩:=h.cycle hq hb hn (by omega) hay
    exact .inr ⟨_,rfl,l2,k1,k2,k3,by simp [h.lb]⟩
   ·rw [if_neg hay]
    have hql:=h.queue
    rw [if_pos (by omega)]
    have h2:=h.lower hq (b:=b) (P2:=fun c=>c∈l) hb hn (fun c _ hc=>by rcases zV.1 hc with e|e;exact .inl e;exact .inr e) (by omega) hay rfl rfl
    have hge2:=h2.ge hq hm (by omega)
    have hsum:(m-1048577 * (N+1)) * N≤(num.set b.x.toNat (gi num b.y+b.c)).sum:=by
     have:=sum_ge (l:=num.set b.x.toNat (gi num b.y+b.c)) (m:=m-1048577 * (N+1)) (gi_mem (P:=fun x=>m-1048577 * (N+1)≤x) (fun v v0 v1=>hge2 v v0 (by rw [h2.ln] at v1;exact v1)))
     rw [h2.ln] at this
     exact this
    have hlt:=mK (N:=N) (B:=m-1048577 * (N+1)) (b:=b) (q:=q) hln f1 f2 (by omega) hsum (q2:=if wait.getD b.x.toNat false=true then q else q++[b.x]) (by split<;>simp)
    have hn2:gi (num.set b.x.toNat (gi num b.y+b.c)) b.y≠gi π b.y:=by
     rw [dW f1 (by omega) f3,if_neg (fun e=>f5 e.symm)];exact hn
    have hgn:gi (num.set b.x.toNat (gi num b.y+b.c)) b.y=gi num b.y:=by rw [dW f1 (by omega) f3,if_neg (fun e=>f5 e.symm)]
    rcases ih _ _ _ _ (fun c hc=>hl c (by simp [hc])) hn2 h2 with ⟨n2,b2,w2,q2,e1,e2,e3⟩|⟨b2,e1,e2⟩
    ·exact .inl ⟨n2,b2,w2,q2,e1,e2,by omega⟩
    ·exact .inr ⟨b2,e1,e2⟩
theorem wayF_ok {N:Nat} {by_:List Arc} {r v:Int} {l:List Arc} (h:ByWay N by_ r v l) (hb:by_.length=N):∀k,l.length<k→aP by_ r k v=some (l.map Arc.lit):=by
 induction h with
 | root =>
  intro k hk
  cases k with
  | zero=>simp at hk
  | succ k=>rw [aP,if_pos rfl];rfl
 | @step v b l h0 h1 hne hby hbx hr ih =>
  intro k hk
  cases k with
  | zero=>simp at hk
  | succ k =>
   rw [aP,if_neg hne,if_pos ⟨h0,by omega⟩,hby,ih k (by simpa using hk)]
   rfl
theorem lowLoop_ok {N:Nat} {arcs:List (List Arc)} {π:List Int} {a:Arc} {m:Int} (hq:LowQ N 1048577 (fun b=>∃y:Nat,y<N∧b∈arcs.getD y []) π a) (hN:N≤32) (hm:∀v:Int,0≤v→v<N→m≤gi π v) (hlo : -576460752303423488≤m) (hhi:∀v:Int,0≤v→v<N→gi π v≤31)
  (hy:∀y:Nat,y<N→∀b∈arcs.getD y [],b.y=y) :
  ∀(k:Nat) (num:List Int) (by_:List Arc) (wait:List Bool) (q:List Int),lowLeft N (m-1048577 * (N+1)) num q<k→Low N 1048577 (fun b=>∃y:Nat,y<N∧b∈arcs.getD y []) π a num by_ wait q (fun _=>False) →
   (∃num2 by2 wait2,gV arcs a k num by_ wait q=some (.inl num2)∧Low N 1048577 (fun b=>∃y:Nat,y<N∧b∈arcs.getD y []) π a num2 by2 wait2 [] (fun _=>False)) ∨
   (∃l,gV arcs a k num by_ wait q=some (.inr (l.map Arc.lit++[a.lit]))∧NegCyc N (fun b=>∃y:Nat,y<N∧b∈arcs.getD y []) a l∧l.length≤N):=by
 intro k
 induction k with
 | zero=>intro num by_ wait q h;exact absurd h (by omega)
 | succ k ih =>
  intro num by_ wait q hk h
  cases q with
  | nil=>exact .inl ⟨num,by_,wait,rfl,h⟩
  | cons n q =>
   obtain ⟨n0,n1,n2⟩:=h.qr n (by simp)
   have hp:=h.pop
   rw [gV,if_pos ⟨n0,by rw [h.ln];exact n1⟩]
   have hmem:∀b∈arcs.getD n.toNat [],(∃y:Nat,y<N∧b∈arcs.getD y [])∧b.y=n:=fun b hb=>⟨⟨n.toNat,by omega,hb⟩,by have:=hy n.toNat (by omega) b hb;omega⟩
   have hp2:=hp.met (b:=a) (P2:=fun b=>b∈arcs.getD n.toNat []) (fun c hc he=>by
    obtain ⟨y,y0,hc2⟩:=hc
    have:=hy y y0 c hc2
    have e:y=n.toNat:=by omega
    subst e
    exact .inr hc2) (by rw [hp.root,hp.ay];exact yM _)
   have hll:lowLeft N (m-1048577 * (N+1)) num (n::q)=lowLeft N (m-1048577 * (N+1)) num q+1:=by unfold lowLeft;simp;omega
   rcases sV hq hN hm hlo hhi n0 n1 _ _ _ _ _ hmem n2 hp2 with ⟨num2,by2,wait2,q2,e1,e2,e3⟩|⟨by2,e1,l,e2,e3,e4,e5⟩
   ·rw [e1]
    exact ih num2 by2 wait2 q2 (by omega) e2
   ·rw [e1]
    refine .inr ⟨l,?_,e3,e4⟩
    show ((aP by2 a.x 1000 a.y).map fun l=>Sum.inr (l++[a.lit]))=_
    rw [wayF_ok e2 e5 1000 (by omega)]
    rfl
theorem csum_eq (l:List Arc):csum (l.map fun a=>(⟨a.x,a.y,a.c⟩:Diff))=sumC l:=by
 unfold csum sumC
 rw [vZ]
 rfl
theorem lowerF_ok (hf:SolQ f B N) {num:List Int} {arcs:List (List Arc)} {act:List Bool} {ins:List Int} {Lo:Int} (h:ThI f B N num arcs act ins Lo) (hL:0≤Lo∧Lo≤576460752303423488) {lit:Int} {a:Arc} (ha:arcOf f lit=some a)
  (hv:a.c<gi num a.x-gi num a.y) {fuel:Nat} (hfu:200 * 576460752303423488≤fuel) :
  (∃num2,lowerF fuel arcs num a=some (.inl num2)∧num2.length=N∧(gi num2 a.x≤gi num2 a.y+a.c)∧(∀b∈ins.filterMap (arcOf f),gi num2 b.x≤gi num2 b.y+b.c)∧∀v:Int,0≤v→v<N → -(Lo+34603041)≤gi num2 v∧gi num2 v≤31) ∨
  (∃lits,lowerF fuel arcs num a=some (.inr lits)∧CycOk f B ins lit lits):=by
 obtain ⟨afit,alit,abd⟩:=bV hf ha
 have hN:=hf.nl
 have hold:∀b,(∃y:Nat,y<N∧b∈arcs.getD y [])↔b∈ins.filterMap (arcOf f):=by
  intro b
  constructor
  ·rintro ⟨y,hy,hb⟩
   rw [h.ar y hy] at hb
   exact (yS.1 hb).1
  ·intro hb
   obtain ⟨l,hl,e⟩:=xQ.1 hb
   obtain ⟨f1,f2,f3,f4,f5,f6,f7⟩:=(bV hf e).1
   refine ⟨b.y.toNat,by omega,?_⟩
   rw [h.ar _ (by omega),yS]
   exact ⟨hb,by simp;omega⟩
 have hq:LowQ N 1048577 (fun b=>∃y:Nat,y<N∧b∈arcs.getD y []) num a:=by
  refine ⟨afit,fun b hb => ?_,h.nl,fun b hb=>h.sat b ((hold b).1 hb),by omega⟩
  obtain ⟨l,hl,e⟩:=xQ.1 ((hold b).1 hb)
  exact (bV hf e).1
 have hy:∀y:Nat,y<N→∀b∈arcs.getD y [],b.y=y:=fun y y0 b hb=>by
  rw [h.ar y y0] at hb
  have:=(yS.1 hb).2
  simpa using this
 have hm:∀v:Int,0≤v→v<N → -Lo≤gi num v:=fun v v0 v1=>(h.lo v v0 v1).1
 have hs:=Low.start hq
 have hNi:(N:Int)≤32:=by omega
 have hbase:(num.set a.x.toNat (gi num a.y+a.c)).sum≤31 * N:=by
  have h1:=sum_ge (l:=(num.set a.x.toNat (gi num a.y+a.c)).map fun x => -x) (m := -31) (fun x hx=>by
   obtain ⟨y,hy,rfl⟩:=List.mem_map.1 hx
   have:=gi_mem (l:=num.set a.x.toNat (gi num a.y+a.c)) (P:=fun x=>x≤31) (fun v v0 v1=>by
    have h2:=hs.le v v0 (by rw [hs.ln] at v1;exact v1)
    have h3:=(h.lo v v0 (by rw [hs.ln] at v1;exact v1)).2
    omega) y hy
   omega)
  have h2:((num.set a.x.toNat (gi num a.y+a.c)).map fun x => -x).sum = -(num.set a.x.toNat (gi num a.y+a.c)).sum:=by
   generalize num.set a.x.toNat (gi num a.y+a.c)=l
   induction l with
   | nil=>simp
   | cons x r ih=>simp only [qC,vB,ih];omega
  rw [h2,List.length_map,hs.ln] at h1
  omega
 have hleft:lowLeft N (-Lo-1048577 * (N+1)) (num.set a.x.toNat (gi num a.y+a.c)) [a.x]<fuel:=by
  unfold lowLeft
  have h3:(-Lo-1048577 * ((N:Int)+1)) * N ≥ -(32 * Lo)-1048577 * 33 * 32:=by
   have h5:(Lo+1048577 * ((N:Int)+1)) * N≤(Lo+1048577 * 33) * 32 :=
    vL (kH hNi (by omega)) (vR (by omega) (by omega))
   have h6:(-Lo-1048577 * ((N:Int)+1)) * N = -((Lo+1048577 * ((N:Int)+1)) * N):=by rw [←Int.neg_mul];congr 1;omega
   rw [h6]
   have h7:(Lo+1048577 * 33) * 32=32 * Lo+1048577 * 33 * 32:=by rw [Int.add_mul];omega
   omega
  simp only [qQ]
  omega
 have hrep:(List.replicate num.length (default:Arc)).set a.x.toNat a=(List.replicate N default).set a.x.toNat a:=by rw [h.nl]
 rcases lowLoop_ok hq hN hm (by omega) (fun v v0 v1=>(h.lo v v0 v1).2) hy fuel _ _ _ _ hleft hs with ⟨num2,by2,wait2,e1,e2⟩|⟨l,e1,e2,e3⟩
 ·left
  refine ⟨num2,by unfold lowerF;rw [h.nl];exact e1,e2.ln,e2.done.1,fun b hb=>e2.done.2 b ((hold b).2 hb),fun v v0 v1 => ?_⟩
  have h1:=e2.ge hq hm (by omega) v v0 v1
  have h2:=e2.le v v0 v1
  have h3:=(h.lo v v0 v1).2
  omega
 ·right
  refine ⟨l.map Arc.lit++[a.lit],by unfold lowerF;rw [h.nl];exact e1,?_⟩
  have hmem:∀b∈l,b∈ins.filterMap (arcOf f):=fun b hb=>(hold b).1 (e2.olds b hb)
  have hlits:∀b∈l,b.lit∈ins∧arcOf f b.lit=some b:=fun b hb=>by
   obtain ⟨x,hx,e⟩:=xQ.1 (hmem b hb)
   have:=(bV hf e).2.1
   rw [this]
   exact ⟨hx,e⟩
  have hall:∀b∈l++[a],arcOf f b.lit=some b:=fun b hb=>by
   rcases zK.1 hb with hb|hb
   ·exact (hlits b hb).2
   ·rw [zH] at hb;subst hb;rw [alit];exact ha
  have hmap:l.map Arc.lit++[a.lit]=(l++[a]).map Arc.lit:=by simp
  refine ⟨⟨(l++[a]).map fun b=>⟨b.x,b.y,b.c⟩,?_,?_,?_,?_⟩,fun x hx => ?_,by rw [alit];simp,?_,by simp;omega⟩
  ·rw [hmap,bA,vZ,vZ]
   refine List.map_congr_left fun b hb => ?_
   exact (bV hf (hall b hb)).2.2
  ·simp
  ·intro i c d hi hc hd
   rw [List.length_map] at hi hd
   rw [List.getElem?_map] at hc hd
   obtain ⟨b1,hb1,rfl⟩:=qR.1 hc
   obtain ⟨b2,hb2,rfl⟩:=qR.1 hd
   exact e2.link i b1 b2 hi hb1 hb2
  ·rw [csum_eq,pT]
   have:=e2.neg
   simp only [sumC,qC,xU,vB,List.sum_nil] at this ⊢
   omega
  ·rcases zK.1 hx with hx|hx
   ·obtain ⟨b,hb,rfl⟩:=List.mem_map.1 hx
    exact .inl (hlits b hb).1
   ·rw [zH] at hx;right;rw [hx,alit]
  ·rw [hmap]
   have hndx:=e2.nd
   unfold List.Nodup at hndx ⊢
   rw [yO] at hndx ⊢
   refine xZ (fun {b c} hb hc hne e=>hne ?_) hndx
   have h1:=hall b hb
   have h2:=hall c hc
   rw [e,h2] at h1
   injection h1 with h1
   rw [h1]
end
section
variable {f:Form} {B N:Nat} {num num2:List Int} {arcs:List (List Arc)} {act:List Bool} {ins:List Int} {Lo Lo2:Int}
theorem aT {lit:Int} (h:bound f.atoms lit=none):arcOf f lit=none:=by unfold arcOf;rw [h];rfl
theorem ThI.skip (h:ThI f B N num arcs act ins Lo) {lit:Int} (hb:bound f.atoms lit=none):ThI f B N num arcs act (ins++[lit]) Lo:=by
 have hf:(ins++[lit]).filterMap (arcOf f)=ins.filterMap (arcOf f):=by rw [xC];simp [aT hb]
 refine ⟨h.nl,h.al,h.cl,fun y hy=>by rw [hf];exact h.ar y hy,fun v hv => ?_,fun a ha=>h.sat a (by rw [hf] at ha;exact ha),h.lo⟩
 rw [h.ac v hv]
 constructor
 ·rintro ⟨l,h1,h2⟩;exact ⟨l,by simp [h1],h2⟩
 ·rintro ⟨l,h1,h2,h3⟩
  rcases zK.1 h1 with h1|h1
  ·exact ⟨l,h1,h2,h3⟩
  ·rw [zH] at h1;subst h1;rw [hb] at h3;cases h3
theorem ThI.put (hq:SolQ f B N) (h:ThI f B N num arcs act ins Lo) {lit:Int} {d:Diff} (hb:bound f.atoms lit=some d) (hn:num2.length=N) (h1:gi num2 d.x≤gi num2 d.y+d.c)
  (h2:∀b∈ins.filterMap (arcOf f),gi num2 b.x≤gi num2 b.y+b.c) (h3:∀v:Int,0≤v→v<N → -Lo2≤gi num2 v∧gi num2 v≤31) :
  ThI f B N num2 (arcs.set d.y.toNat (arcs.getD d.y.toNat []++[⟨lit,d.x,d.y,d.c⟩])) (act.set (vr lit) true) (ins++[lit]) Lo2:=by
 obtain ⟨f1,f2,f3,f4,f5,f6,f7⟩:=dY hq hb
 obtain ⟨l0,l1⟩:=sE hb
 have hal:=h.al
 have hcl:=h.cl
 have hab:=hq.al
 have hf:(ins++[lit]).filterMap (arcOf f)=ins.filterMap (arcOf f)++[⟨lit,d.x,d.y,d.c⟩]:=by rw [xC];simp [arcOf,hb]
 refine ⟨hn,by simp [h.al],by simp [h.cl],fun y hy => ?_,fun v hv => ?_,fun a ha => ?_,h3⟩
 ·rw [wG _ _ _ _ _ (by omega),hf,List.filter_append]
  by_cases e:y=d.y.toNat
  ·rw [if_pos e,h.ar _ (by omega),←e]
   congr 1
   rw [List.filter_cons,if_pos (by simp;omega)]
   rfl
  ·rw [if_neg e,h.ar y hy]
   simp;omega
 ·rw [wG _ _ _ _ _ (by omega)]
  by_cases e:v=vr lit
  ·rw [if_pos e]
   simp only [true_iff]
   exact ⟨lit,by simp,e.symm,by rw [hb];rfl⟩
  ·rw [if_neg e,h.ac v hv]
   constructor
   ·rintro ⟨l,k1,k2⟩;exact ⟨l,by simp [k1],k2⟩
   ·rintro ⟨l,k1,k2,k3⟩
    rcases zK.1 k1 with k1|k1
    ·exact ⟨l,k1,k2,k3⟩
    ·rw [zH] at k1;subst k1;exact absurd k2.symm e
 ·rw [hf] at ha
  rcases zK.1 ha with ha|ha
  ·exact h2 a ha
  ·rw [zH] at ha;subst ha;exact h1
theorem ThI.undo (hq:SolQ f B N) {s:Sol} {lit:Int} (h:ThI f B N s.num s.arcs s.act (ins++[lit]) Lo) (hl:litB B lit=true) (hnd:((ins++[lit]).map vr).Nodup) (hB:s.e.val.length=B) :
  undoOk f s lit=true∧ThI f B N (undoF f s lit).num (undoF f s lit).arcs (undoF f s lit).act ins Lo:=by
 obtain ⟨l0,l1⟩:=wD.1 hl
 have hal:=h.al
 have hcl:=h.cl
 rw [List.map_append,qG] at hnd
 have hoff:∀l∈ins,vr l≠vr lit:=fun l hm e=>hnd.2.2 (vr l) (List.mem_map.2 ⟨l,hm,rfl⟩) (vr lit) (by simp) e
 have hac:=h.ac (vr lit) l1
 have hbn:s.act.getD (vr lit) false=true↔(bound f.atoms lit).isSome=true:=by
  rw [hac]
  constructor
  ·rintro ⟨l,k1,k2,k3⟩
   rcases zK.1 k1 with k1|k1
   ·exact absurd k2 (hoff l k1)
   ·rw [zH] at k1;subst k1;exact k3
  ·intro k;exact ⟨lit,by simp,rfl,k⟩
 cases hb:bound f.atoms lit with
 | none =>
  have ha:s.act.getD (vr lit) false=false:=by
   cases e:s.act.getD (vr lit) false with
   | false=>rfl
   | true=>have h9:=hbn.1 e;rw [hb] at h9;cases h9
  have hf:(ins++[lit]).filterMap (arcOf f)=ins.filterMap (arcOf f):=by rw [xC];simp [aT hb]
  refine ⟨?_,?_⟩
  ·unfold undoOk
   rw [ha,hB,hl,hcl]
   simp
  ·unfold undoF
   simp only [ha]
   refine ⟨h.nl,h.al,h.cl,fun y hy=>by simp only [xO,jR];rw [h.ar y hy,hf],fun v hv => ?_,fun a ha=>h.sat a (by rw [hf];exact ha),h.lo⟩
   simp only [xO,jR]
   rw [h.ac v hv]
   constructor
   ·rintro ⟨l,k1,k2,k3⟩
    rcases zK.1 k1 with k1|k1
    ·exact ⟨l,k1,k2,k3⟩
    ·rw [zH] at k1;subst k1;rw [hb] at k3;cases k3
   ·rintro ⟨l,k1,k2⟩;exact ⟨l,by simp [k1],k2⟩
 | some d =>
  have ha:s.act.getD (vr lit) false=true:=hbn.2 (by rw [hb];rfl)
  obtain ⟨f1,f2,f3,f4,f5,f6,f7⟩:=dY hq hb
  have hf:(ins++[lit]).filterMap (arcOf f)=ins.filterMap (arcOf f)++[⟨lit,d.x,d.y,d.c⟩]:=by rw [xC];simp [arcOf,hb]
  have har:=h.ar d.y.toNat (by omega)
  rw [hf,List.filter_append,show ([⟨lit,d.x,d.y,d.c⟩]:List Arc).filter (fun a=>decide (a.y=(d.y.toNat:Int)))=[⟨lit,d.x,d.y,d.c⟩] by simp;omega] at har
  refine ⟨?_,?_⟩
  ·unfold undoOk
   rw [ha,hB,hl,hcl,hb]
   simp only [har]
   simp
   omega
  ·unfold undoF
   simp only [ha,uR,hb]
   refine ⟨h.nl,by simp [h.al],by simp [h.cl],fun y hy => ?_,fun v hv => ?_,fun a ha=>h.sat a (by rw [hf];exact qP _ ha),h.lo⟩
   ·rw [wG _ _ _ _ _ (by omega)]
    by_cases e:y=d.y.toNat
    ·rw [if_pos e,har,jB,←e]
    ·rw [if_neg e,h.ar y hy,hf,List.filter_append]
     simp;omega
   ·rw [wG _ _ _ _ _ (by omega)]
    by_cases e:v=vr lit
    ·rw [if_pos e]
     simp only [xO,false_iff]
     rintro ⟨l,k1,k2,k3⟩
     exact hoff l k1 (k2.trans e)
    ·rw [if_neg e,h.ac v hv]
     constructor
     ·rintro ⟨l,k1,k2,k3⟩
      rcases zK.1 k1 with k1|k1
      ·exact ⟨l,k1,k2,k3⟩
      ·rw [zH] at k1;subst k1;exact absurd k2.symm e
     ·rintro ⟨l,k1,k2⟩;exact ⟨l,by simp [k1],k2⟩
theorem ThI.undo_off {s:Sol} {lit:Int} (h:ThI f B N s.num s.arcs s.act ins Lo) (hl:litB B lit=true) (hnd:vr lit∉ins.map vr) (hB:s.e.val.length=B) :
  undoOk f s lit=true∧(undoF f s lit).num=s.num∧(undoF f s lit).arcs=s.arcs∧(undoF f s lit).act=s.act:=by
 obtain ⟨l0,l1⟩:=wD.1 hl
 have ha:s.act.getD (vr lit) false=false:=by
  cases e:s.act.getD (vr lit) false with
  | false=>rfl
  | true =>
   obtain ⟨l,k1,k2,k3⟩:=(h.ac _ l1).1 e
   exact absurd (List.mem_map.2 ⟨l,k1,k2⟩) hnd
 refine ⟨?_,rfl,?_,?_⟩
 ·unfold undoOk;rw [ha,hB,hl,h.cl];simp
 ·unfold undoF;simp only [ha];rfl
 ·unfold undoF;simp only [ha];rfl
theorem mN (hq:SolQ f B N) {s:Sol} (h:ThI f B N s.num s.arcs s.act ins Lo) (hL:0≤Lo∧Lo≤576460752303423488) {lit:Int} (hl:litB B lit=true) (hil:ins.length≤1024) (hc:s.e.cls.length<LIM) (ho:s.org.length<LIM) {fuel:Nat} (hfu:200 * 576460752303423488≤fuel) :
  (∃num arcs act,constrainF fuel f s lit=some ({ s with num:=num,arcs:=arcs,act:=act }, -1)∧ThI f B N num arcs act (ins++[lit]) (Lo+34603041)) ∨
  (∃lits,constrainF fuel f s lit=some ({ s with e:={ s.e with cls:=s.e.cls++[lits.map fun l => -l] },org:=s.org++[⟨⟨2,0,lits,0,0,0⟩,0,[]⟩] },(s.e.cls.length:Int))∧CycOk f B ins lit lits):=by
 unfold constrainF
 cases hb:bound f.atoms lit with
 | none =>
  exact .inl ⟨s.num,s.arcs,s.act,rfl,⟨(h.skip hb).nl,(h.skip hb).al,(h.skip hb).cl,(h.skip hb).ar,(h.skip hb).ac,(h.skip hb).sat,fun v v0 v1=>by have:=(h.skip hb).lo v v0 v1;omega⟩⟩
 | some d =>
  obtain ⟨f1,f2,f3,f4,f5,f6,f7⟩:=dY hq hb
  have hnl:=h.nl
  have g1:rJ s.num.length ⟨lit,d.x,d.y,d.c⟩=true:=by simp only [rJ,qI];omega
  have g2:s.arcs.length=s.num.length:=by rw [h.al,h.nl]
  have hlo:=h.lo
  have g3:iK (gi s.num d.x)=true:=by have:=hlo d.x f1 f2;simp only [iK,qI];omega
  have g4:iK (gi s.num d.y)=true:=by have:=hlo d.y f3 f4;simp only [iK,qI];omega
  have g5:(s.arcs.getD d.y.toNat []).length<LIM:=by
   rw [h.ar _ (by omega)]
   have h1:=xD (fun a=>decide (a.y=(d.y.toNat:Int))) (ins.filterMap (arcOf f))
   have h2:=uH (arcOf f) ins
   unfold LIM;omega
  have g6:litB s.act.length lit=true:=by rw [h.cl];exact hl
  simp only
  rw [if_pos ⟨g1,g2,g3,g4,g5,g6⟩]
  by_cases hv:d.c<gi s.num d.x-gi s.num d.y
  ·rw [if_pos hv]
   have ha:arcOf f lit=some ⟨lit,d.x,d.y,d.c⟩:=by unfold arcOf;rw [hb];rfl
   rcases lowerF_ok hq h hL ha hv hfu with ⟨num2,e1,e2,e3,e4,e5⟩|⟨lits,e1,e2⟩
   ·rw [e1]
    exact .inl ⟨_,_,_,rfl,ThI.put hq h hb e2 e3 e4 e5⟩
   ·rw [e1]
    refine .inr ⟨lits,?_,e2⟩
    simp only
    unfold Sol.addF
    rw [if_pos ⟨hc,ho⟩]
    rfl
  ·rw [if_neg hv]
   exact .inl ⟨_,_,_,rfl,ThI.put hq h hb h.nl (by omega) h.sat (fun v v0 v1=>by have:=hlo v v0 v1;omega)⟩
end
end Go.Proofs.Yticieifacalocaa
