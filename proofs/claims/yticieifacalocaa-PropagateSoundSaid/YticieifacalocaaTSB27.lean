/- RefLaw -/
import Derived.Test.YticieifacalocaaTSB26
namespace Go.Proofs.Yticieifacalocaa
def OkV (f:Form) (val:List Int):Prop:=(val.length:Int)=f.bools∧∀(i:Nat) (x:Int),val[i]? = some x→x=0∨x=(i:Int)+1∨x = -((i:Int)+1)
structure SmallQ (f:Form):Prop where
 i0:2≤f.ints
 i1:f.ints≤6
 al:(f.atoms.length:Int)≤f.bools
 bl:f.bools≤18
 cl:f.clauses.length≤40
 at_:∀d∈f.atoms,bM f.ints d=true ∧ -4≤d.c∧d.c≤2
 cs:∀xs∈f.clauses,xs.length≤4∧∀x∈xs,bZ f.bools x=true
theorem SmallF.q {a b c:Int} {f:Form} (h:SmallF a b c f):SmallQ f:=by
 obtain ⟨h1,h2,h3,h4,h5,h6⟩:=h
 exact ⟨by omega,by omega,by omega,by omega,h4,h5,fun xs hx=>(h6 xs hx).2⟩
def asgK (val:List Int) (k:Nat):List Int:=(val.take k).filter fun x=>x != 0
def asg (f:Form) (val:List Int):List Int:=asgK val f.atoms.length
theorem asgK_yes {val:List Int} {k:Nat} {x:Int} (h:val[k]? = some x) (hx:x≠0):asgK val (k+1)=asgK val k++[x]:=by
 unfold asgK
 rw [yP,h,Option.toList,List.filter_append]
 simp [hx]
theorem asgK_no {val:List Int} {k:Nat} (h:val[k]? = some 0):asgK val (k+1)=asgK val k:=by
 unfold asgK
 rw [yP,h,Option.toList,List.filter_append]
 simp
theorem asgK_len (val:List Int) (k:Nat):(asgK val k).length≤k:=by
 unfold asgK
 exact qC (xC _ _) (kE _ _)
theorem pC {atoms:List Diff} {xs:List Int} {ds:List Diff} {x:Int} {d:Diff} (h:bK atoms xs=some ds) (hx:bound atoms x=some d):bK atoms (xs++[x])=some (ds++[d]):=by
 rw [bH] at h ⊢
 rw [List.map_append,List.map_append,h];simp [hx]
theorem aW {atoms:List Diff} {xs:List Int} {ds:List Diff} (h:bK atoms xs=some ds):ds.length=xs.length:=by
 rw [bH] at h
 have:=congrArg List.length h
 simpa using this.symm
theorem lR {atoms:List Diff} {xs:List Int} {ds:List Diff} (h:bK atoms xs=some ds) {k:Nat} {x:Int} (hx:xs[k]? = some x):∃d,ds[k]? = some d∧bound atoms x=some d:=by
 rw [bH] at h
 have h2:(xs.map (bound atoms))[k]? = some (bound atoms x):=by rw [List.getElem?_map,hx];rfl
 rw [h,List.getElem?_map] at h2
 cases e:ds[k]? with
 | none=>rw [e] at h2;cases h2
 | some d=>rw [e] at h2;injection h2 with h2;exact ⟨d,rfl,h2.symm⟩
theorem bnds_pick {atoms:List Diff} {xs:List Int} {ds:List Diff} (h:bK atoms xs=some ds) {ks:List Nat} (hk:∀k∈ks,k<ds.length):bK atoms (ks.map fun k=>xs.getD k 0)=some (ks.map fun k=>ds.getD k ⟨0,0,0⟩):=by
 induction ks with
 | nil=>rfl
 | cons k ks ih =>
  have hl:=aW h
  have hk1:=hk k (by simp)
  obtain ⟨d,h1,h2⟩:=lR h (List.getElem?_eq_getElem (show k<xs.length by omega))
  rw [qF,qF,bK,ih fun j hj=>hk j (by simp [hj])]
  rw [List.getD_eq_getElem?_getD,List.getElem?_eq_getElem (show k<xs.length by omega),yU,h2,List.getD_eq_getElem?_getD,h1]
  rfl
def Asm (val:List Int) (x:Int):Prop:=x≠0∧val[x.natAbs-1]? = some x
theorem Asm.false {val:List Int} {x:Int} (h:Asm val x):falseB val (-x)=true:=by
 unfold falseB
 rw [show (-x).natAbs-1=x.natAbs-1 by omega,List.getD_eq_getElem?_getD,h.2]
 simp
theorem Asm.no {val:List Int} {x:Int} (h:Asm val x) (h2:Asm val (-x)):False:=by
 have h3:=h2.2
 rw [show (-x).natAbs-1=x.natAbs-1 by omega,h.2] at h3
 injection h3 with h3
 exact h.1 (by omega)
theorem lV {f:Form} {val:List Int} (hv:OkV f val) {x:Int} (hx:x∈asg f val):Asm val x∧x.natAbs-1<f.atoms.length:=by
 unfold asg asgK at hx
 obtain ⟨h1,h2⟩:=yS.1 hx
 obtain ⟨i,hi⟩:=qJ h1
 rw [qK] at hi
 split at hi
 ·rename_i hlt
  have h0:x≠0:=by simpa using h2
  have:=hv.2 i x hi
  have e:x.natAbs-1=i:=by omega
  exact ⟨⟨h0,by rw [e];exact hi⟩,by omega⟩
 ·cases hi
theorem norm_neg {val used:List Int} (h:∀x∈used,Asm val x) (hb:∀x∈used, -1000≤x∧x≤1000):∃c,gB (used.map fun x => -x)=some c∧failsB val c=true:=by
 cases e:gB (used.map fun x => -x) with
 | none =>
  exfalso
  have hs:=gF (used.map fun x => -x)
  rw [e] at hs
  rcases hs with ⟨y,hy,hb2⟩|⟨y,hy,hy2,_⟩
  ·obtain ⟨x,hx,rfl⟩:=List.mem_map.1 hy
   have h1:=(h x hx).1
   have h2:=hb x hx
   simp [gH] at hb2
   omega
  ·obtain ⟨x,hx,rfl⟩:=List.mem_map.1 hy
   obtain ⟨z,hz,e2⟩:=List.mem_map.1 hy2
   have:z = -x:=by omega
   subst this
   exact (h x hx).no (h _ hz)
 | some c =>
  refine ⟨c,rfl,?_⟩
  have hs:=gF (used.map fun x => -x)
  rw [e] at hs
  unfold failsB
  rw [qS]
  intro z hz
  obtain ⟨x,hx,rfl⟩:=List.mem_map.1 ((hs.2.1 z).1 hz)
  exact (h x hx).false
theorem eS {f:Form} {val:List Int} {j:Nat} {x:Int} (hq:SmallQ f) (hv:OkV f val) (h:val[j]? = some x) (hx:x≠0) (hj:j<f.atoms.length) :
  ∃d,bound f.atoms x=some d∧0≤d.x∧d.x<f.ints∧0≤d.y∧d.y<f.ints∧d.x≠d.y ∧ -5≤d.c∧d.c≤5:=by
 obtain ⟨⟨a,b,c⟩,hd⟩:∃d,f.atoms[j]? = some d:=⟨_,List.getElem?_eq_getElem hj⟩
 obtain ⟨h1,h2,h3⟩:=hq.at_ _ (List.mem_of_getElem? hd)
 obtain ⟨k1,k2,k3,k4,k5,k6,k7⟩:=dR.1 h1
 simp only at h2 h3
 rcases hv.2 j x h with h|h|h
 ·exact absurd h hx
 ·subst h
  exact ⟨⟨a,b,c⟩,by rw [cO];exact hd,k1,k2,k3,k4,k5,by simp only;omega,by simp only;omega⟩
 ·subst h
  exact ⟨Diff.opp ⟨a,b,c⟩,by rw [cK,hd];rfl,k3,k4,k1,k2,fun e=>k5 e.symm,by simp only [Diff.opp];omega,by simp only [Diff.opp];omega⟩
def pL (f:Form) (val:List Int):Prop :=
 (∀xs∈f.clauses,∀n,gB xs=some n→failsB val n=false)∧∃l sol,bK f.atoms (asg f val)=some l∧∀d∈l,gi sol d.x≤gi sol d.y+d.c
theorem sD {f:Form} {a cs:List (List Int)} {l:List Stp} (h:dO f a l=(cs,true)) (r:List Stp):dO f a (l++r)=dO f cs r:=by
 induction l generalizing a with
 | nil=>rw [dO] at h;injection h with h _;rw [h];rfl
 | cons s l ih =>
  rw [dO] at h
  rw [qV,dO]
  cases e:deriv f s a with
  | none=>rw [e] at h;injection h with _ h;cases h
  | some c=>rw [e] at h;exact ih h
theorem oS {f:Form} {a cs:List (List Int)} {l:List Stp} (h:dO f a l=(cs,true)):cs.length=a.length+l.length:=by
 induction l generalizing a with
 | nil=>rw [dO] at h;injection h with h _;rw [h];simp
 | cons s l ih =>
  rw [dO] at h
  cases e:deriv f s a with
  | none=>rw [e] at h;injection h with _ h;cases h
  | some c=>rw [e] at h;have:=ih h;simp at this ⊢;omega
theorem runS_norm {f:Form} {a cs:List (List Int)} {l:List Stp} (h:dO f a l=(cs,true)) (ha:∀c∈a,∃xs,gB xs=some c):∀c∈cs,∃xs,gB xs=some c:=by
 induction l generalizing a with
 | nil=>rw [dO] at h;injection h with h _;rw [←h];exact ha
 | cons s l ih =>
  rw [dO] at h
  cases e:deriv f s a with
  | none=>rw [e] at h;injection h with _ h;cases h
  | some c =>
   rw [e] at h
   refine ih h fun c' hc => ?_
   rcases zI.1 hc with hc|hc
   ·exact ha c' hc
   ·simp at hc;subst hc;exact deriv_norm e
def Good (f:Form) (ps:List Stp) (cs:List (List Int)):Prop:=dO f [] ps=(cs,true)
theorem Good.nil (f:Form):Good f [] []:=rfl
theorem Good.snoc {f:Form} {ps:List Stp} {cs:List (List Int)} {s:Stp} {c:List Int} (h:Good f ps cs) (hd:deriv f s cs=some c):Good f (ps++[s]) (cs++[c]):=by
 unfold Good at h ⊢
 rw [sD h,dO,hd]
 rfl
theorem Good.len {f:Form} {ps:List Stp} {cs:List (List Int)} (h:Good f ps cs):cs.length=ps.length:=by
 have:=oS h;simpa using this
def Nrm (c:List Int):Prop:=Up c∧∀x∈c,gH x=false
theorem nrm_of {xs c:List Int} (h:gB xs=some c):Nrm c:=by
 have hs:=gF xs
 rw [h] at hs
 exact ⟨hs.1,fun x hx=>hs.2.2 x ((hs.2.1 x).1 hx)⟩
theorem Nrm.nz {c:List Int} (h:Nrm c) {x:Int} (hx:x∈c):x≠0:=by
 intro e;have:=h.2 x hx;rw [e] at this;cases this
theorem Good.nrm {f:Form} {ps:List Stp} {cs:List (List Int)} (h:Good f ps cs) {c:List Int} (hc:c∈cs):Nrm c:=by
 obtain ⟨xs,hx⟩:=runS_norm h (by simp) c hc
 exact nrm_of hx
theorem bN {val c:List Int}:failsB val c=true↔∀x∈c,val.getD (x.natAbs-1) 0 = -x:=by
 unfold failsB falseB
 rw [qS]
 simp
theorem mV {val c:List Int} {v:Nat} {a:Int} (h:failsB (val.set v a) c=true) (hn : -a∉c) (hv:v<val.length):failsB val c=true:=by
 rw [bN] at h ⊢
 intro x hx
 have h1:=h x hx
 rw [List.getD_eq_getElem?_getD,yW] at h1
 split at h1
 ·rename_i e
  simp only [yU] at h1
  exact absurd hx (by rw [show x = -a by omega];exact hn)
 ·rw [List.getD_eq_getElem?_getD];exact h1
theorem res_fails {val cp cq:List Int} {v:Nat} (hv:v<val.length) (h24:v<1024) (hp:failsB (val.set v ((v:Int)+1)) cp=true) (hq:failsB (val.set v (-((v:Int)+1))) cq=true) (np:Nrm cp) (nq:Nrm cq) (mp : -((v:Int)+1)∈cp) (mq:(v:Int)+1∈cq) :
  ∃c,res cq cp v=some c∧failsB val c=true:=by
 have key:∀x∈cq.filter (fun x=>decide (x≠(v:Int)+1))++cp.filter (fun x=>decide (x ≠ -((v:Int)+1))),val.getD (x.natAbs-1) 0 = -x∧gH x=false:=by
  intro x hx
  rcases zI.1 hx with hx|hx
  ·obtain ⟨h1,h2⟩:=yS.1 hx
   refine ⟨?_,nq.2 x h1⟩
   have h3:=bN.1 hq x h1
   rw [List.getD_eq_getElem?_getD,yW] at h3
   split at h3
   ·simp only [yU] at h3
    exact absurd (show x=(v:Int)+1 by omega) (by simpa using h2)
   ·rw [List.getD_eq_getElem?_getD];exact h3
  ·obtain ⟨h1,h2⟩:=yS.1 hx
   refine ⟨?_,np.2 x h1⟩
   have h3:=bN.1 hp x h1
   rw [List.getD_eq_getElem?_getD,yW] at h3
   split at h3
   ·simp only [yU] at h3
    exact absurd (show x = -((v:Int)+1) by omega) (by simpa using h2)
   ·rw [List.getD_eq_getElem?_getD];exact h3
 have hr:res cq cp v=gB (cq.filter (fun x=>decide (x≠(v:Int)+1))++cp.filter (fun x=>decide (x ≠ -((v:Int)+1)))):=by
  unfold res
  rw [if_pos ⟨by omega,by omega,mq,mp⟩]
 rw [hr]
 generalize cq.filter (fun x=>decide (x≠(v:Int)+1))++cp.filter (fun x=>decide (x ≠ -((v:Int)+1)))=zs at key
 have hs:=gF zs
 cases e:gB zs with
 | none =>
  exfalso
  rw [e] at hs
  rcases hs with ⟨y,hy,hb⟩|⟨y,hy,hy2,h0⟩
  ·rw [(key y hy).2] at hb;cases hb
  ·have h1:=(key y hy).1
   have h2:=(key _ hy2).1
   have h3:=(key y hy).2
   rw [show (-y).natAbs-1=y.natAbs-1 by omega,h1] at h2
   have:y=0:=by omega
   rw [this] at h3;cases h3
 | some c =>
  rw [e] at hs
  exact ⟨c,rfl,bN.2 fun x hx=>(key x ((hs.2.1 x).1 hx)).1⟩
theorem fails_zero {n:Nat} {c:List Int} (h:failsB (List.replicate n 0) c=true) (hz:Nrm c):c=[]:=by
 cases c with
 | nil=>rfl
 | cons x r =>
  exfalso
  have h1:=bN.1 h x (by simp)
  have h2:=hz.nz (x:=x) (by simp)
  rw [List.getD_eq_getElem?_getD,List.getElem?_replicate] at h1
  split at h1<;>simp at h1<;>omega
def free (val:List Int):Nat:=(val.filter fun x=>x == 0).length
theorem nD {val:List Int} {v:Nat} {a:Int} (h:val[v]? = some 0) (ha:a≠0):free (val.set v a)+1=free val:=by
 induction val generalizing v with
 | nil=>simp at h
 | cons x r ih =>
  cases v with
  | zero =>
   simp at h;subst h
   simp [free,ha]
  | succ v =>
   rw [zC] at h
   have:=ih h
   unfold free at this ⊢
   rw [zE,vD,vD]
   split
   ·simp at this ⊢;omega
   ·exact this
theorem OkV.set {f:Form} {val:List Int} {v:Nat} {a:Int} (h:OkV f val) (ha:a=0∨a=(v:Int)+1∨a = -((v:Int)+1)):OkV f (val.set v a):=by
 refine ⟨by simpa using h.1,fun i x hx => ?_⟩
 rw [yW] at hx
 split at hx
 ·rename_i e
  split at hx
  ·injection hx with hx;subst hx e;exact ha
  ·cases hx
 ·exact h.2 i x hx
def aU (val:List Int):List Bool:=val.map fun x=>decide (0<x)
theorem lB {f:Form} {val:List Int} (hv:OkV f val) (hn:∀x∈val,x≠0) {x:Int} (hx:bZ f.bools x=true) (h:val.getD (x.natAbs-1) 0 ≠ -x):holds (aU val) x=true:=by
 obtain ⟨h0,h1,h2⟩:=dN.1 hx
 have hl:=hv.1
 have hlt:x.natAbs-1<val.length:=by omega
 have hg:val[x.natAbs-1]? = some val[x.natAbs-1]:=List.getElem?_eq_getElem hlt
 have hz:=hn _ (yH hlt)
 have ho:=hv.2 _ _ hg
 rw [List.getD_eq_getElem?_getD,hg,yU] at h
 have he:val[x.natAbs-1]=x:=by omega
 rw [he] at hg
 clear he hz ho h
 rcases bR x with e|⟨n,e⟩|⟨n,e⟩
 ·exact absurd e h0
 ·have hn2:x.natAbs-1=n:=by omega
  rw [hn2,e] at hg
  rw [e,dY,List.getD_eq_getElem?_getD,aU,List.getElem?_map,hg]
  simp
 ·have hn2:x.natAbs-1=n:=by omega
  rw [hn2,e] at hg
  rw [e,bA,aU,List.getElem?_map,hg]
  simp;omega
theorem mdl_clause {f:Form} {val:List Int} (hq:SmallQ f) (hv:OkV f val) (hn:∀x∈val,x≠0) (hc:pL f val) {xs:List Int} (hx:xs∈f.clauses):xs.any (holds (aU val))=true:=by
 have hs:=gF xs
 cases e:gB xs with
 | none =>
  rw [e] at hs
  rcases hs with ⟨y,hy,hb⟩|⟨y,hy,hy2,h0⟩
  ·exfalso
   have h1:=dN.1 ((hq.cs xs hx).2 y hy)
   have:=hq.bl
   simp [gH] at hb
   omega
  ·by_cases h:val.getD (y.natAbs-1) 0 = -y
   ·rw [xN]
    refine ⟨-y,hy2,lB hv hn ((hq.cs xs hx).2 _ hy2) ?_⟩
    rw [show (-y).natAbs-1=y.natAbs-1 by omega,h]
    have:=(dN.1 ((hq.cs xs hx).2 y hy)).1
    omega
   ·rw [xN]
    exact ⟨y,hy,lB hv hn ((hq.cs xs hx).2 _ hy) h⟩
 | some c =>
  rw [e] at hs
  have h1:=hc.1 xs hx c e
  rw [failsB,kR] at h1
  obtain ⟨y,hy,h2⟩:=h1
  have hm:=(hs.2.1 y).1 hy
  rw [xN]
  refine ⟨y,hm,lB hv hn ((hq.cs xs hx).2 _ hm) ?_⟩
  simpa [falseB] using h2
def Fits (atoms:List Diff) (bs:List Bool) (xs:List Int):Prop:=∀(i:Nat) (d:Diff),atoms[i]? = some d→bs[i]? = some (decide (gi xs d.x-gi xs d.y≤d.c))
theorem sS {atoms:List Diff} {bs:List Bool} {xs:List Int} (hf:Fits atoms bs xs) {lit:Int} {d:Diff} (hb:bound atoms lit=some d):(holds bs lit=true∧gi xs d.x-gi xs d.y≤d.c)∨holds bs (-lit)=true:=by
 rcases bR lit with rfl|⟨n,rfl⟩|⟨n,rfl⟩
 ·rw [bound_zero] at hb;cases hb
 ·rw [cO] at hb
  have h1:=hf n d hb
  by_cases h:gi xs d.x-gi xs d.y≤d.c
  ·refine .inl ⟨?_,h⟩
   rw [dY,List.getD_eq_getElem?_getD,h1];simp [h]
  ·refine .inr ?_
   rw [bA,h1];simp [h]
 ·rw [cK] at hb
  obtain ⟨a,ha,rfl⟩:=qY.1 hb
  have h1:=hf n a ha
  by_cases h:gi xs a.x-gi xs a.y≤a.c
  ·refine .inr ?_
   rw [show -(-((n:Int)+1))=(n:Int)+1 by omega,dY,List.getD_eq_getElem?_getD,h1];simp [h]
  ·refine .inl ⟨?_,?_⟩
   ·rw [bA,h1];simp [h]
   ·simp only [Diff.opp];omega
theorem chain_sum (X:Int→Int) (ds:List Diff) (d0:Diff) (h:∀(i:Nat) (a b:Diff),(d0::ds)[i]? = some a→(d0::ds)[i+1]? = some b→a.y=b.x) :
  ((d0::ds).map fun d=>X d.x-X d.y).sum=X d0.x-X ((d0::ds).getLast (by simp)).y:=by
 induction ds generalizing d0 with
 | nil=>simp
 | cons d1 r ih =>
  have h01:=h 0 d0 d1 rfl rfl
  have:=ih d1 fun i a b h1 h2=>h (i+1) a b h1 h2
  rw [qF,vI,this,List.getLast_cons (List.cons_ne_nil d1 r),h01]
  omega
theorem cyc_sum (X:Int→Int) {ds:List Diff} (h:fF ds ds.length):(ds.map fun d=>X d.x-X d.y).sum=0:=by
 cases ds with
 | nil=>rfl
 | cons d0 r =>
  rw [chain_sum X r d0 fun i a b h1 h2 => ?_]
  ·have hlast:(d0::r)[r.length]? = some ((d0::r).getLast (by simp)):=by
    rw [jC];simp
   have:=h r.length _ d0 (by simp) hlast (by simp)
   rw [this];omega
  ·have hi:=(zG.1 h2).1
   refine h i a b (by omega) h1 ?_
   rw [jE hi];exact h2
theorem sum_le_map {α:Type} (p q:α→Int) (l:List α) (h:∀d∈l,p d≤q d):(l.map p).sum≤(l.map q).sum:=by
 induction l with
 | nil=>simp
 | cons d r ih =>
  have h1:=h d (by simp)
  have h2:=ih fun d hd=>h d (by simp [hd])
  simp only [qF,vI]
  omega
theorem cyc_no (X:Int→Int) {ds:List Diff} (h:Cyc ds):∃d∈ds,¬X d.x-X d.y≤d.c:=by
 apply qD
 intro hn
 have h1:=cyc_sum X h.2.1
 have h2:=sum_le_map (fun d:Diff=>X d.x-X d.y) (fun d:Diff=>d.c) ds fun d hd=>qD fun hc=>hn ⟨d,hd,hc⟩
 have h3:=h.2.2
 unfold csum at h3
 have e:(ds.map fun d:Diff=>d.c)=ds.map Diff.c:=rfl
 rw [e] at h2
 omega
theorem mB {xs c:List Int} (h:gB xs=some c) (p:Int→Bool):c.any p=xs.any p:=by
 have hs:=gF xs
 rw [h] at hs
 rw [jM,xN,xN]
 exact ⟨fun ⟨x,h1,h2⟩=>⟨x,(hs.2.1 x).1 h1,h2⟩,fun ⟨x,h1,h2⟩=>⟨x,(hs.2.1 x).2 h1,h2⟩⟩
theorem bnds_mem {atoms:List Diff} {lits:List Int} {ds:List Diff} (h:bK atoms lits=some ds) {d:Diff} (hd:d∈ds):∃x∈lits,bound atoms x=some d:=by
 have h1:=bH.1 h
 have h2:some d∈ds.map some:=List.mem_map.2 ⟨d,hd,rfl⟩
 rw [←h1] at h2
 obtain ⟨x,h3,h4⟩:=List.mem_map.1 h2
 exact ⟨x,h3,h4⟩
theorem holds_one (bs:List Bool) (v:Int) (h:holds bs v=true):holds bs (-v)=false:=by
 rcases bR v with rfl|⟨n,rfl⟩|⟨n,rfl⟩
 ·rfl
 ·rw [dY,List.getD_eq_getElem?_getD] at h
  rw [bA]
  cases e:bs[n]? with
  | none=>rfl
  | some b=>rw [e] at h;simp at h;simp [h]
 ·rw [bA] at h
  rw [show -(-((n:Int)+1))=(n:Int)+1 by omega,dY,List.getD_eq_getElem?_getD]
  cases e:bs[n]? with
  | none=>rw [e] at h;cases h
  | some b=>rw [e] at h;simp at h;simp [h]
theorem rO {f:Form} {bs:List Bool} {xs:List Int} (hf:Fits f.atoms bs xs) (hc:∀c∈f.clauses,c.any (holds bs)=true) {s:Stp} {cs:List (List Int)} (hcs:∀c∈cs,c.any (holds bs)=true) {c:List Int} (h:deriv f s cs=some c):c.any (holds bs)=true:=by
 unfold deriv at h
 split at h
 ·split at h
  ·obtain ⟨a,h1,h2⟩:=yO.1 h
   rw [mB h2]
   exact hc a (List.mem_of_getElem? h1)
  ·cases h
 ·split at h
  ·unfold cyc at h
   split at h
   ·rename_i ds hds
    split at h
    ·rename_i hcy
     rw [mB h,xN]
     obtain ⟨d,hd,hno⟩:=cyc_no (gi xs) (show Cyc ds from by simpa [cycB] using hcy)
     obtain ⟨x,hx,hbx⟩:=bnds_mem hds hd
     rcases sS hf hbx with ⟨_,h2⟩|h2
     ·exact absurd h2 hno
     ·exact ⟨-x,List.mem_map.2 ⟨x,hx,rfl⟩,h2⟩
    ·cases h
   ·cases h
  ·split at h
   ·split at h
    ·obtain ⟨a,h1,h2⟩:=yO.1 h
     obtain ⟨b,h3,h4⟩:=yO.1 h2
     unfold res at h4
     split at h4
     ·rw [mB h4]
      have ha:=hcs a (List.mem_of_getElem? h1)
      have hb:=hcs b (List.mem_of_getElem? h3)
      rw [xN] at ha hb ⊢
      obtain ⟨x,hx,hx2⟩:=ha
      obtain ⟨y,hy,hy2⟩:=hb
      by_cases e1:x=s.var+1
      ·by_cases e2:y = -(s.var+1)
       ·subst e1 e2
        have:=holds_one bs _ hx2
        rw [this] at hy2;cases hy2
       ·exact ⟨y,List.mem_append_right _ (yS.2 ⟨hy,by simpa using e2⟩),hy2⟩
      ·exact ⟨x,qN _ (yS.2 ⟨hx,by simpa using e1⟩),hx2⟩
     ·cases h4
    ·cases h
   ·cases h
theorem runS_holds {f:Form} {bs:List Bool} {xs:List Int} (hf:Fits f.atoms bs xs) (hc:∀c∈f.clauses,c.any (holds bs)=true) {a cs:List (List Int)} {l:List Stp} {b:Bool} (h:dO f a l=(cs,b)) (ha:∀c∈a,c.any (holds bs)=true):∀c∈cs,c.any (holds bs)=true:=by
 induction l generalizing a with
 | nil=>rw [dO] at h;injection h with h _;rw [←h];exact ha
 | cons s l ih =>
  rw [dO] at h
  cases e:deriv f s a with
  | none=>rw [e] at h;injection h with h _;rw [←h];exact ha
  | some c =>
   rw [e] at h
   refine ih h fun c' hc' => ?_
   rcases zI.1 hc' with hc'|hc'
   ·exact ha c' hc'
   ·simp at hc';subst hc';exact rO hf hc ha e
def s0:Stp:=⟨0,0,[],0,0,0⟩
def ndStep (l:List Stp) (nd:List Bool) (i:Nat):List Bool :=
 if nd.getD i false=true∧(l.getD i s0).kind=3 then (nd.set (l.getD i s0).p.toNat true).set (l.getD i s0).q.toNat true else nd
def ndFrom (l:List Stp):Nat→List Bool
 | 0=>(List.replicate l.length false).set (l.length-1) true
 | j+1=>ndStep l (ndFrom l j) (l.length-1-j)
def nd (l:List Stp):List Bool:=ndFrom l l.length
theorem runS_at {f:Form} {a cs:List (List Int)} {l:List Stp} (h:dO f a l=(cs,true)) {i:Nat} (hi:i<l.length):∃c,cs[a.length+i]? = some c∧deriv f (l.getD i s0) (cs.take (a.length+i))=some c:=by
 induction l generalizing a i with
 | nil=>simp at hi
 | cons s l ih =>
  rw [dO] at h
  cases e:deriv f s a with
  | none=>rw [e] at h;injection h with _ h;cases h
  | some c =>
   rw [e] at h
   cases i with
   | zero =>
    have hpre:∀{a cs:List (List Int)} {l:List Stp},dO f a l=(cs,true)→∃r,cs=a++r:=by
     intro a cs l
     induction l generalizing a with
     | nil=>intro h;rw [dO] at h;injection h with h _;exact ⟨[],by simp [h]⟩
     | cons s l ih =>
      intro h
      rw [dO] at h
      cases e:deriv f s a with
      | none=>rw [e] at h;injection h with _ h;cases h
      | some c =>
       rw [e] at h
       obtain ⟨r,hr⟩:=ih h
       exact ⟨c::r,by rw [hr];simp⟩
    obtain ⟨r,hr⟩:=hpre h
    refine ⟨c,?_,?_⟩
    ·rw [hr];simp
    ·rw [hr];simpa using e
   | succ i =>
    obtain ⟨c',h1,h2⟩:=ih h (i:=i) (by simpa using hi)
    refine ⟨c',?_,?_⟩
    ·rw [←h1];simp;congr 1;omega
    ·rw [vH,show a.length+(i+1)=(a++[c]).length+i by simp;omega];exact h2
theorem Good.at_ {f:Form} {l:List Stp} {cs:List (List Int)} (h:Good f l cs) {i:Nat} (hi:i<l.length):∃c,cs[i]? = some c∧deriv f (l.getD i s0) (cs.take i)=some c:=by
 have:=runS_at h hi
 simpa using this
def Refutes (f:Form) (l:List Stp):Prop:=∃cs,Good f l cs∧0<l.length∧cs.getD (l.length-1) []=[]
end Go.Proofs.Yticieifacalocaa
