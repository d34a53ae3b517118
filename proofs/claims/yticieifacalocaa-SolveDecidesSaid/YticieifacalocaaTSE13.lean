/- RefLaw Great DFit -/
import Derived.Test.YticieifacalocaaTSE12
import Derived.Test.YticieifacalocaaTSE11
namespace Go.Proofs.Yticieifacalocaa
def OkV (f:Form) (val:List Int):Prop:=(val.length:Int)=f.bools∧∀(i:Nat) (x:Int),val[i]? = some x→x=0∨x=(i:Int)+1∨x = -((i:Int)+1)
structure SmallQ (f:Form):Prop where
 i0:2≤f.ints
 i1:f.ints≤6
 al:(f.atoms.length:Int)≤f.bools
 bl:f.bools≤18
 cl:f.clauses.length≤40
 at_:∀d∈f.atoms,dY f.ints d=true ∧ -4≤d.c∧d.c≤2
 cs:∀xs∈f.clauses,xs.length≤4∧∀x∈xs,bR f.bools x=true
theorem SmallF.q {a b c:Int} {f:Form} (h:SmallF a b c f):SmallQ f:=by
 obtain ⟨h1,h2,h3,h4,h5,h6⟩:=h
 exact ⟨by omega,by omega,by omega,by omega,h4,h5,fun xs hx=>(h6 xs hx).2⟩
def asgK (val:List Int) (k:Nat):List Int:=(val.take k).filter fun x=>x != 0
def asg (f:Form) (val:List Int):List Int:=asgK val f.atoms.length
theorem asgK_yes {val:List Int} {k:Nat} {x:Int} (h:val[k]? = some x) (hx:x≠0):asgK val (k+1)=asgK val k++[x]:=by
 unfold asgK
 rw [yQ,h,Option.toList,List.filter_append]
 simp [hx]
theorem asgK_no {val:List Int} {k:Nat} (h:val[k]? = some 0):asgK val (k+1)=asgK val k:=by
 unfold asgK
 rw [yQ,h,Option.toList,List.filter_append]
 simp
theorem asgK_len (val:List Int) (k:Nat):(asgK val k).length≤k:=by
 unfold asgK
 exact zZ (yZ _ _) (kE _ _)
theorem oN {atoms:List Diff} {xs:List Int} {ds:List Diff} {x:Int} {d:Diff} (h:bB atoms xs=some ds) (hx:bound atoms x=some d):bB atoms (xs++[x])=some (ds++[d]):=by
 rw [dR] at h ⊢
 rw [List.map_append,List.map_append,h];simp [hx]
theorem eH {atoms:List Diff} {xs:List Int} {ds:List Diff} (h:bB atoms xs=some ds):ds.length=xs.length:=by
 rw [dR] at h
 have:=congrArg List.length h
 simpa using this.symm
theorem lM {atoms:List Diff} {xs:List Int} {ds:List Diff} (h:bB atoms xs=some ds) {k:Nat} {x:Int} (hx:xs[k]? = some x):∃d,ds[k]? = some d∧bound atoms x=some d:=by
 rw [dR] at h
 have h2:(xs.map (bound atoms))[k]? = some (bound atoms x):=by rw [List.getElem?_map,hx];rfl
 rw [h,List.getElem?_map] at h2
 cases e:ds[k]? with
 | none=>rw [e] at h2;cases h2
 | some d=>rw [e] at h2;injection h2 with h2;exact ⟨d,rfl,h2.symm⟩
theorem bnds_pick {atoms:List Diff} {xs:List Int} {ds:List Diff} (h:bB atoms xs=some ds) {ks:List Nat} (hk:∀k∈ks,k<ds.length):bB atoms (ks.map fun k=>xs.getD k 0)=some (ks.map fun k=>ds.getD k ⟨0,0,0⟩):=by
 induction ks with
 | nil=>rfl
 | cons k ks ih =>
  have hl:=eH h
  have hk1:=hk k (by simp)
  obtain ⟨d,h1,h2⟩:=lM h (List.getElem?_eq_getElem (show k<xs.length by omega))
  rw [qD,qD,bB,ih fun j hj=>hk j (by simp [hj])]
  rw [List.getD_eq_getElem?_getD,List.getElem?_eq_getElem (show k<xs.length by omega),yE,h2,List.getD_eq_getElem?_getD,h1]
  rfl
def Asm (val:List Int) (x:Int):Prop:=x≠0∧val[x.natAbs-1]? = some x
theorem Asm.false {val:List Int} {x:Int} (h:Asm val x):falseB val (-x)=true:=by
 unfold falseB
 rw [show (-x).natAbs-1=x.natAbs-1 by omega,List.getD_eq_getElem?_getD,h.2]
 simp
theorem Asm.no {val:List Int} {x:Int} (h:Asm val x) (h2:Asm val (-x)):False:=by
 have h3:=h2.2
 rw [show (-x).natAbs-1=x.natAbs-1 by omega,h.2] at h3
 injection h3 with h3
 exact h.1 (by omega)
theorem lP {f:Form} {val:List Int} (hv:OkV f val) {x:Int} (hx:x∈asg f val):Asm val x∧x.natAbs-1<f.atoms.length:=by
 unfold asg asgK at hx
 obtain ⟨h1,h2⟩:=yH.1 hx
 obtain ⟨i,hi⟩:=qI h1
 rw [qO] at hi
 split at hi
 ·rename_i hlt
  have h0:x≠0:=by simpa using h2
  have:=hv.2 i x hi
  have e:x.natAbs-1=i:=by omega
  exact ⟨⟨h0,by rw [e];exact hi⟩,by omega⟩
 ·cases hi
theorem norm_neg {val used:List Int} (h:∀x∈used,Asm val x) (hb:∀x∈used, -1000≤x∧x≤1000):∃c,wS (used.map fun x => -x)=some c∧failsB val c=true:=by
 cases e:wS (used.map fun x => -x) with
 | none =>
  exfalso
  have hs:=wZ (used.map fun x => -x)
  rw [e] at hs
  rcases hs with ⟨y,hy,hb2⟩|⟨y,hy,hy2,_⟩
  ·obtain ⟨x,hx,rfl⟩:=List.mem_map.1 hy
   have h1:=(h x hx).1
   have h2:=hb x hx
   simp [wX] at hb2
   omega
  ·obtain ⟨x,hx,rfl⟩:=List.mem_map.1 hy
   obtain ⟨z,hz,e2⟩:=List.mem_map.1 hy2
   have:z = -x:=by omega
   subst this
   exact (h x hx).no (h _ hz)
 | some c =>
  refine ⟨c,rfl,?_⟩
  have hs:=wZ (used.map fun x => -x)
  rw [e] at hs
  unfold failsB
  rw [qM]
  intro z hz
  obtain ⟨x,hx,rfl⟩:=List.mem_map.1 ((hs.2.1 z).1 hz)
  exact (h x hx).false
theorem eO {f:Form} {val:List Int} {j:Nat} {x:Int} (hq:SmallQ f) (hv:OkV f val) (h:val[j]? = some x) (hx:x≠0) (hj:j<f.atoms.length) :
  ∃d,bound f.atoms x=some d∧0≤d.x∧d.x<f.ints∧0≤d.y∧d.y<f.ints∧d.x≠d.y ∧ -5≤d.c∧d.c≤5:=by
 obtain ⟨⟨a,b,c⟩,hd⟩:∃d,f.atoms[j]? = some d:=⟨_,List.getElem?_eq_getElem hj⟩
 obtain ⟨h1,h2,h3⟩:=hq.at_ _ (List.mem_of_getElem? hd)
 obtain ⟨k1,k2,k3,k4,k5,k6,k7⟩:=gU.1 h1
 simp only at h2 h3
 rcases hv.2 j x h with h|h|h
 ·exact absurd h hx
 ·subst h
  exact ⟨⟨a,b,c⟩,by rw [bJ];exact hd,k1,k2,k3,k4,k5,by simp only;omega,by simp only;omega⟩
 ·subst h
  exact ⟨Diff.opp ⟨a,b,c⟩,by rw [bL,hd];rfl,k3,k4,k1,k2,fun e=>k5 e.symm,by simp only [Diff.opp];omega,by simp only [Diff.opp];omega⟩
def pY (f:Form) (val:List Int):Prop :=
 (∀xs∈f.clauses,∀n,wS xs=some n→failsB val n=false)∧∃l sol,bB f.atoms (asg f val)=some l∧∀d∈l,gi sol d.x≤gi sol d.y+d.c
theorem runS_append {f:Form} {a cs:List (List Int)} {l:List Stp} (h:gB f a l=(cs,true)) (r:List Stp):gB f a (l++r)=gB f cs r:=by
 induction l generalizing a with
 | nil=>rw [gB] at h;injection h with h _;rw [h];rfl
 | cons s l ih =>
  rw [gB] at h
  rw [qV,gB]
  cases e:deriv f s a with
  | none=>rw [e] at h;injection h with _ h;cases h
  | some c=>rw [e] at h;exact ih h
theorem oV {f:Form} {a cs:List (List Int)} {l:List Stp} (h:gB f a l=(cs,true)):cs.length=a.length+l.length:=by
 induction l generalizing a with
 | nil=>rw [gB] at h;injection h with h _;rw [h];simp
 | cons s l ih =>
  rw [gB] at h
  cases e:deriv f s a with
  | none=>rw [e] at h;injection h with _ h;cases h
  | some c=>rw [e] at h;have:=ih h;simp at this ⊢;omega
theorem runS_norm {f:Form} {a cs:List (List Int)} {l:List Stp} (h:gB f a l=(cs,true)) (ha:∀c∈a,∃xs,wS xs=some c):∀c∈cs,∃xs,wS xs=some c:=by
 induction l generalizing a with
 | nil=>rw [gB] at h;injection h with h _;rw [←h];exact ha
 | cons s l ih =>
  rw [gB] at h
  cases e:deriv f s a with
  | none=>rw [e] at h;injection h with _ h;cases h
  | some c =>
   rw [e] at h
   refine ih h fun c' hc => ?_
   rcases zI.1 hc with hc|hc
   ·exact ha c' hc
   ·simp at hc;subst hc;exact deriv_norm e
def Good (f:Form) (ps:List Stp) (cs:List (List Int)):Prop:=gB f [] ps=(cs,true)
theorem Good.nil (f:Form):Good f [] []:=rfl
theorem Good.snoc {f:Form} {ps:List Stp} {cs:List (List Int)} {s:Stp} {c:List Int} (h:Good f ps cs) (hd:deriv f s cs=some c):Good f (ps++[s]) (cs++[c]):=by
 unfold Good at h ⊢
 rw [runS_append h,gB,hd]
 rfl
theorem Good.len {f:Form} {ps:List Stp} {cs:List (List Int)} (h:Good f ps cs):cs.length=ps.length:=by
 have:=oV h;simpa using this
def Nrm (c:List Int):Prop:=Up c∧∀x∈c,wX x=false
theorem nrm_of {xs c:List Int} (h:wS xs=some c):Nrm c:=by
 have hs:=wZ xs
 rw [h] at hs
 exact ⟨hs.1,fun x hx=>hs.2.2 x ((hs.2.1 x).1 hx)⟩
theorem Nrm.nz {c:List Int} (h:Nrm c) {x:Int} (hx:x∈c):x≠0:=by
 intro e;have:=h.2 x hx;rw [e] at this;cases this
theorem Good.nrm {f:Form} {ps:List Stp} {cs:List (List Int)} (h:Good f ps cs) {c:List Int} (hc:c∈cs):Nrm c:=by
 obtain ⟨xs,hx⟩:=runS_norm h (by simp) c hc
 exact nrm_of hx
theorem bM {val c:List Int}:failsB val c=true↔∀x∈c,val.getD (x.natAbs-1) 0 = -x:=by
 unfold failsB falseB
 rw [qM]
 simp
theorem lV {val c:List Int} {v:Nat} {a:Int} (h:failsB (val.set v a) c=true) (hn : -a∉c) (hv:v<val.length):failsB val c=true:=by
 rw [bM] at h ⊢
 intro x hx
 have h1:=h x hx
 rw [List.getD_eq_getElem?_getD,yY] at h1
 split at h1
 ·rename_i e
  simp only [yE] at h1
  exact absurd hx (by rw [show x = -a by omega];exact hn)
 ·rw [List.getD_eq_getElem?_getD];exact h1
theorem res_fails {val cp cq:List Int} {v:Nat} (hv:v<val.length) (h24:v<1024) (hp:failsB (val.set v ((v:Int)+1)) cp=true) (hq:failsB (val.set v (-((v:Int)+1))) cq=true) (np:Nrm cp) (nq:Nrm cq) (mp : -((v:Int)+1)∈cp) (mq:(v:Int)+1∈cq) :
  ∃c,res cq cp v=some c∧failsB val c=true:=by
 have key:∀x∈cq.filter (fun x=>decide (x≠(v:Int)+1))++cp.filter (fun x=>decide (x ≠ -((v:Int)+1))),val.getD (x.natAbs-1) 0 = -x∧wX x=false:=by
  intro x hx
  rcases zI.1 hx with hx|hx
  ·obtain ⟨h1,h2⟩:=yH.1 hx
   refine ⟨?_,nq.2 x h1⟩
   have h3:=bM.1 hq x h1
   rw [List.getD_eq_getElem?_getD,yY] at h3
   split at h3
   ·simp only [yE] at h3
    exact absurd (show x=(v:Int)+1 by omega) (by simpa using h2)
   ·rw [List.getD_eq_getElem?_getD];exact h3
  ·obtain ⟨h1,h2⟩:=yH.1 hx
   refine ⟨?_,np.2 x h1⟩
   have h3:=bM.1 hp x h1
   rw [List.getD_eq_getElem?_getD,yY] at h3
   split at h3
   ·simp only [yE] at h3
    exact absurd (show x = -((v:Int)+1) by omega) (by simpa using h2)
   ·rw [List.getD_eq_getElem?_getD];exact h3
 have hr:res cq cp v=wS (cq.filter (fun x=>decide (x≠(v:Int)+1))++cp.filter (fun x=>decide (x ≠ -((v:Int)+1)))):=by
  unfold res
  rw [if_pos ⟨by omega,by omega,mq,mp⟩]
 rw [hr]
 generalize cq.filter (fun x=>decide (x≠(v:Int)+1))++cp.filter (fun x=>decide (x ≠ -((v:Int)+1)))=zs at key
 have hs:=wZ zs
 cases e:wS zs with
 | none =>
  exfalso
  rw [e] at hs
  rcases hs with ⟨y,hy,hb⟩|⟨y,hy,hy2,h0⟩
  ·rw [(key y hy).2] at hb;cases hb
  ·have h1:=(key y hy).1
   have h2:=(key _ hy2).1
   have h3:=(key y hy).2
   rw [show (-y).natAbs-1=y.natAbs-1 by omega,h1] at h2
   have:y=0:=by omega
   rw [this] at h3;cases h3
 | some c =>
  rw [e] at hs
  exact ⟨c,rfl,bM.2 fun x hx=>(key x ((hs.2.1 x).1 hx)).1⟩
theorem fails_zero {n:Nat} {c:List Int} (h:failsB (List.replicate n 0) c=true) (hz:Nrm c):c=[]:=by
 cases c with
 | nil=>rfl
 | cons x r =>
  exfalso
  have h1:=bM.1 h x (by simp)
  have h2:=hz.nz (x:=x) (by simp)
  rw [List.getD_eq_getElem?_getD,List.getElem?_replicate] at h1
  split at h1<;>simp at h1<;>omega
def free (val:List Int):Nat:=(val.filter fun x=>x == 0).length
theorem mH {val:List Int} {v:Nat} {a:Int} (h:val[v]? = some 0) (ha:a≠0):free (val.set v a)+1=free val:=by
 induction val generalizing v with
 | nil=>simp at h
 | cons x r ih =>
  cases v with
  | zero =>
   simp at h;subst h
   simp [free,ha]
  | succ v =>
   rw [zC] at h
   have:=ih h
   unfold free at this ⊢
   rw [zE,uR,uR]
   split
   ·simp at this ⊢;omega
   ·exact this
theorem OkV.set {f:Form} {val:List Int} {v:Nat} {a:Int} (h:OkV f val) (ha:a=0∨a=(v:Int)+1∨a = -((v:Int)+1)):OkV f (val.set v a):=by
 refine ⟨by simpa using h.1,fun i x hx => ?_⟩
 rw [yY] at hx
 split at hx
 ·rename_i e
  split at hx
  ·injection hx with hx;subst hx e;exact ha
  ·cases hx
 ·exact h.2 i x hx
def aR (val:List Int):List Bool:=val.map fun x=>decide (0<x)
theorem iK {f:Form} {val:List Int} (hv:OkV f val) (hn:∀x∈val,x≠0) {x:Int} (hx:bR f.bools x=true) (h:val.getD (x.natAbs-1) 0 ≠ -x):holds (aR val) x=true:=by
 obtain ⟨h0,h1,h2⟩:=gW.1 hx
 have hl:=hv.1
 have hlt:x.natAbs-1<val.length:=by omega
 have hg:val[x.natAbs-1]? = some val[x.natAbs-1]:=List.getElem?_eq_getElem hlt
 have hz:=hn _ (yG hlt)
 have ho:=hv.2 _ _ hg
 rw [List.getD_eq_getElem?_getD,hg,yE] at h
 have he:val[x.natAbs-1]=x:=by omega
 rw [he] at hg
 clear he hz ho h
 rcases cD x with e|⟨n,e⟩|⟨n,e⟩
 ·exact absurd e h0
 ·have hn2:x.natAbs-1=n:=by omega
  rw [hn2,e] at hg
  rw [e,cC,List.getD_eq_getElem?_getD,aR,List.getElem?_map,hg]
  simp
 ·have hn2:x.natAbs-1=n:=by omega
  rw [hn2,e] at hg
  rw [e,cA,aR,List.getElem?_map,hg]
  simp;omega
theorem mdl_clause {f:Form} {val:List Int} (hq:SmallQ f) (hv:OkV f val) (hn:∀x∈val,x≠0) (hc:pY f val) {xs:List Int} (hx:xs∈f.clauses):xs.any (holds (aR val))=true:=by
 have hs:=wZ xs
 cases e:wS xs with
 | none =>
  rw [e] at hs
  rcases hs with ⟨y,hy,hb⟩|⟨y,hy,hy2,h0⟩
  ·exfalso
   have h1:=gW.1 ((hq.cs xs hx).2 y hy)
   have:=hq.bl
   simp [wX] at hb
   omega
  ·by_cases h:val.getD (y.natAbs-1) 0 = -y
   ·rw [xD]
    refine ⟨-y,hy2,iK hv hn ((hq.cs xs hx).2 _ hy2) ?_⟩
    rw [show (-y).natAbs-1=y.natAbs-1 by omega,h]
    have:=(gW.1 ((hq.cs xs hx).2 y hy)).1
    omega
   ·rw [xD]
    exact ⟨y,hy,iK hv hn ((hq.cs xs hx).2 _ hy) h⟩
 | some c =>
  rw [e] at hs
  have h1:=hc.1 xs hx c e
  rw [failsB,kQ] at h1
  obtain ⟨y,hy,h2⟩:=h1
  have hm:=(hs.2.1 y).1 hy
  rw [xD]
  refine ⟨y,hm,iK hv hn ((hq.cs xs hx).2 _ hm) ?_⟩
  simpa [falseB] using h2
def lL (atoms:List Diff) (bs:List Bool) (xs:List Int):Prop:=∀(i:Nat) (d:Diff),atoms[i]? = some d→bs[i]? = some (decide (gi xs d.x-gi xs d.y≤d.c))
theorem rR {atoms:List Diff} {bs:List Bool} {xs:List Int} (hf:lL atoms bs xs) {lit:Int} {d:Diff} (hb:bound atoms lit=some d):(holds bs lit=true∧gi xs d.x-gi xs d.y≤d.c)∨holds bs (-lit)=true:=by
 rcases cD lit with rfl|⟨n,rfl⟩|⟨n,rfl⟩
 ·rw [bound_zero] at hb;cases hb
 ·rw [bJ] at hb
  have h1:=hf n d hb
  by_cases h:gi xs d.x-gi xs d.y≤d.c
  ·refine .inl ⟨?_,h⟩
   rw [cC,List.getD_eq_getElem?_getD,h1];simp [h]
  ·refine .inr ?_
   rw [cA,h1];simp [h]
 ·rw [bL] at hb
  obtain ⟨a,ha,rfl⟩:=qT.1 hb
  have h1:=hf n a ha
  by_cases h:gi xs a.x-gi xs a.y≤a.c
  ·refine .inr ?_
   rw [show -(-((n:Int)+1))=(n:Int)+1 by omega,cC,List.getD_eq_getElem?_getD,h1];simp [h]
  ·refine .inl ⟨?_,?_⟩
   ·rw [cA,h1];simp [h]
   ·simp only [Diff.opp];omega
theorem chain_sum (X:Int→Int) (ds:List Diff) (d0:Diff) (h:∀(i:Nat) (a b:Diff),(d0::ds)[i]? = some a→(d0::ds)[i+1]? = some b→a.y=b.x) :
  ((d0::ds).map fun d=>X d.x-X d.y).sum=X d0.x-X ((d0::ds).getLast (by simp)).y:=by
 induction ds generalizing d0 with
 | nil=>simp
 | cons d1 r ih =>
  have h01:=h 0 d0 d1 rfl rfl
  have:=ih d1 fun i a b h1 h2=>h (i+1) a b h1 h2
  rw [qD,vE,this,List.getLast_cons (List.cons_ne_nil d1 r),h01]
  omega
theorem cyc_sum (X:Int→Int) {ds:List Diff} (h:fA ds ds.length):(ds.map fun d=>X d.x-X d.y).sum=0:=by
 cases ds with
 | nil=>rfl
 | cons d0 r =>
  rw [chain_sum X r d0 fun i a b h1 h2 => ?_]
  ·have hlast:(d0::r)[r.length]? = some ((d0::r).getLast (by simp)):=by
    rw [uS];simp
   have:=h r.length _ d0 (by simp) hlast (by simp)
   rw [this];omega
  ·have hi:=(zG.1 h2).1
   refine h i a b (by omega) h1 ?_
   rw [uU hi];exact h2
theorem sum_le_map {α:Type} (p q:α→Int) (l:List α) (h:∀d∈l,p d≤q d):(l.map p).sum≤(l.map q).sum:=by
 induction l with
 | nil=>simp
 | cons d r ih =>
  have h1:=h d (by simp)
  have h2:=ih fun d hd=>h d (by simp [hd])
  simp only [qD,vE]
  omega
theorem cyc_no (X:Int→Int) {ds:List Diff} (h:Cyc ds):∃d∈ds,¬X d.x-X d.y≤d.c:=by
 apply qB
 intro hn
 have h1:=cyc_sum X h.2.1
 have h2:=sum_le_map (fun d:Diff=>X d.x-X d.y) (fun d:Diff=>d.c) ds fun d hd=>qB fun hc=>hn ⟨d,hd,hc⟩
 have h3:=h.2.2
 unfold csum at h3
 have e:(ds.map fun d:Diff=>d.c)=ds.map Diff.c:=rfl
 rw [e] at h2
 omega
theorem mZ {xs c:List Int} (h:wS xs=some c) (p:Int→Bool):c.any p=xs.any p:=by
 have hs:=wZ xs
 rw [h] at hs
 rw [jD,xD,xD]
 exact ⟨fun ⟨x,h1,h2⟩=>⟨x,(hs.2.1 x).1 h1,h2⟩,fun ⟨x,h1,h2⟩=>⟨x,(hs.2.1 x).2 h1,h2⟩⟩
theorem bnds_mem {atoms:List Diff} {lits:List Int} {ds:List Diff} (h:bB atoms lits=some ds) {d:Diff} (hd:d∈ds):∃x∈lits,bound atoms x=some d:=by
 have h1:=dR.1 h
 have h2:some d∈ds.map some:=List.mem_map.2 ⟨d,hd,rfl⟩
 rw [←h1] at h2
 obtain ⟨x,h3,h4⟩:=List.mem_map.1 h2
 exact ⟨x,h3,h4⟩
theorem holds_one (bs:List Bool) (v:Int) (h:holds bs v=true):holds bs (-v)=false:=by
 rcases cD v with rfl|⟨n,rfl⟩|⟨n,rfl⟩
 ·rfl
 ·rw [cC,List.getD_eq_getElem?_getD] at h
  rw [cA]
  cases e:bs[n]? with
  | none=>rfl
  | some b=>rw [e] at h;simp at h;simp [h]
 ·rw [cA] at h
  rw [show -(-((n:Int)+1))=(n:Int)+1 by omega,cC,List.getD_eq_getElem?_getD]
  cases e:bs[n]? with
  | none=>rw [e] at h;cases h
  | some b=>rw [e] at h;simp at h;simp [h]
theorem tD {f:Form} {bs:List Bool} {xs:List Int} (hf:lL f.atoms bs xs) (hc:∀c∈f.clauses,c.any (holds bs)=true) {s:Stp} {cs:List (List Int)} (hcs:∀c∈cs,c.any (holds bs)=true) {c:List Int} (h:deriv f s cs=some c):c.any (holds bs)=true:=by
 unfold deriv at h
 split at h
 ·split at h
  ·obtain ⟨a,h1,h2⟩:=qW.1 h
   rw [mZ h2]
   exact hc a (List.mem_of_getElem? h1)
  ·cases h
 ·split at h
  ·unfold cyc at h
   split at h
   ·rename_i ds hds
    split at h
    ·rename_i hcy
     rw [mZ h,xD]
     obtain ⟨d,hd,hno⟩:=cyc_no (gi xs) (show Cyc ds from by simpa [cycB] using hcy)
     obtain ⟨x,hx,hbx⟩:=bnds_mem hds hd
     rcases rR hf hbx with ⟨_,h2⟩|h2
     ·exact absurd h2 hno
     ·exact ⟨-x,List.mem_map.2 ⟨x,hx,rfl⟩,h2⟩
    ·cases h
   ·cases h
  ·split at h
   ·split at h
    ·obtain ⟨a,h1,h2⟩:=qW.1 h
     obtain ⟨b,h3,h4⟩:=qW.1 h2
     unfold res at h4
     split at h4
     ·rw [mZ h4]
      have ha:=hcs a (List.mem_of_getElem? h1)
      have hb:=hcs b (List.mem_of_getElem? h3)
      rw [xD] at ha hb ⊢
      obtain ⟨x,hx,hx2⟩:=ha
      obtain ⟨y,hy,hy2⟩:=hb
      by_cases e1:x=s.var+1
      ·by_cases e2:y = -(s.var+1)
       ·subst e1 e2
        have:=holds_one bs _ hx2
        rw [this] at hy2;cases hy2
       ·exact ⟨y,List.mem_append_right _ (yH.2 ⟨hy,by simpa using e2⟩),hy2⟩
      ·exact ⟨x,qQ _ (yH.2 ⟨hx,by simpa using e1⟩),hx2⟩
     ·cases h4
    ·cases h
   ·cases h
theorem nL {f:Form} {bs:List Bool} {xs:List Int} (hf:lL f.atoms bs xs) (hc:∀c∈f.clauses,c.any (holds bs)=true) {a cs:List (List Int)} {l:List Stp} {b:Bool} (h:gB f a l=(cs,b)) (ha:∀c∈a,c.any (holds bs)=true):∀c∈cs,c.any (holds bs)=true:=by
 induction l generalizing a with
 | nil=>rw [gB] at h;injection h with h _;rw [←h];exact ha
 | cons s l ih =>
  rw [gB] at h
  cases e:deriv f s a with
  | none=>rw [e] at h;injection h with h _;rw [←h];exact ha
  | some c =>
   rw [e] at h
   refine ih h fun c' hc' => ?_
   rcases zI.1 hc' with hc'|hc'
   ·exact ha c' hc'
   ·simp at hc';subst hc';exact tD hf hc ha e
def s0:Stp:=⟨0,0,[],0,0,0⟩
def ndStep (l:List Stp) (nd:List Bool) (i:Nat):List Bool :=
 if nd.getD i false=true∧(l.getD i s0).kind=3 then (nd.set (l.getD i s0).p.toNat true).set (l.getD i s0).q.toNat true else nd
def ndFrom (l:List Stp):Nat→List Bool
 | 0=>(List.replicate l.length false).set (l.length-1) true
 | j+1=>ndStep l (ndFrom l j) (l.length-1-j)
def nd (l:List Stp):List Bool:=ndFrom l l.length
theorem runS_at {f:Form} {a cs:List (List Int)} {l:List Stp} (h:gB f a l=(cs,true)) {i:Nat} (hi:i<l.length):∃c,cs[a.length+i]? = some c∧deriv f (l.getD i s0) (cs.take (a.length+i))=some c:=by
 induction l generalizing a i with
 | nil=>simp at hi
 | cons s l ih =>
  rw [gB] at h
  cases e:deriv f s a with
  | none=>rw [e] at h;injection h with _ h;cases h
  | some c =>
   rw [e] at h
   cases i with
   | zero =>
    have hpre:∀{a cs:List (List Int)} {l:List Stp},gB f a l=(cs,true)→∃r,cs=a++r:=by
     intro a cs l
     induction l generalizing a with
     | nil=>intro h;rw [gB] at h;injection h with h _;exact ⟨[],by simp [h]⟩
     | cons s l ih =>
      intro h
      rw [gB] at h
      cases e:deriv f s a with
      | none=>rw [e] at h;injection h with _ h;cases h
      | some c =>
       rw [e] at h
       obtain ⟨r,hr⟩:=ih h
       exact ⟨c::r,by rw [hr];simp⟩
    obtain ⟨r,hr⟩:=hpre h
    refine ⟨c,?_,?_⟩
    ·rw [hr];simp
    ·rw [hr];simpa using e
   | succ i =>
    obtain ⟨c',h1,h2⟩:=ih h (i:=i) (by simpa using hi)
    refine ⟨c',?_,?_⟩
    ·rw [←h1];simp;congr 1;omega
    ·rw [jT,show a.length+(i+1)=(a++[c]).length+i by simp;omega];exact h2
theorem Good.at_ {f:Form} {l:List Stp} {cs:List (List Int)} (h:Good f l cs) {i:Nat} (hi:i<l.length):∃c,cs[i]? = some c∧deriv f (l.getD i s0) (cs.take i)=some c:=by
 have:=runS_at h hi
 simpa using this
def fT (f:Form) (l:List Stp):Prop:=∃cs,Good f l cs∧0<l.length∧cs.getD (l.length-1) []=[]
open Go.RowKit
structure GS (w wr:World) (gx:Nat) (xs:List Int):Prop where
 x:Blk wr gx 3 (dH xs)
 lx:w.heap.size≤gx
 bl:Below w.heap.size w wr
section
variable {w wr w':World} {gx:Nat} {xs:List Int}
theorem GS.keep (h:GS w wr gx xs) (hb:Below wr.heap.size wr w'):GS w w' gx xs:=⟨h.x.keep hb,h.lx,h.bl.trans (hb.mono h.bl.size)⟩
theorem GS.setX (h:GS w wr gx xs) (k:Nat) (a:Int):GS w (wr.setCell ⟨gx,k,none⟩ (.int .i64 a)) gx (xs.set k a) :=
 ⟨h.x.setI k a,h.lx,h.bl.grown (wJ _ _ _ _) h.bl.size fun g e=>by have:=h.lx;injection e with e;omega⟩
theorem GS.drewN (h:GS w wr gx xs) (n:Nat):GS w (wr.drewN n) gx xs:=⟨h.x.drewN n,h.lx,bC h.bl n⟩
end
def GrRet (w:World) (n:Nat) (l:List Diff) (e:Ending) (w':World):Prop :=
 ∃g xs,e = .returned (.tuple #[.slice (some ⟨g,0,none⟩) n n, .bool true])∧Blk w' g 3 (dH xs)∧w.heap.size≤g∧xs.length=n∧(∀d∈l,gi xs d.x≤gi xs d.y+d.c)∧(∀x∈xs, -2000000000000≤x∧x≤0)∧Below w.heap.size w w'
theorem mR {n:Nat} {M:Int} {l:List Diff} {r i:Nat} {xs bs:List Int} {last:Int} (h:Bell n M l r i xs bs last) (hM:M≤1000000) (hl:l.length≤1000) (hr:r≤1000) (hi:i≤l.length):∀x∈xs, -2000000000000≤x∧x≤0:=by
 intro x hx
 obtain ⟨k,hk,rfl⟩:=qX hx
 have hlen:=h.lens.1
 have h1:=h.bound (k:Int) (by omega) (by omega)
 have e:gi xs (k:Int)=xs[k]:=by unfold gi;rw [Int.toNat_natCast,List.getD_eq_getElem?_getD,List.getElem?_eq_getElem hk];rfl
 rw [e] at h1
 have h3:r * l.length≤1000 * 1000:=vQ hr hl
 have h4:M * ((r * l.length+i:Nat):Int)≤1000000 * 1001000:=jL hM (by omega) (by omega) (by omega)
 omega
set_option maxRecDepth 100000 in
set_option maxHeartbeats 2000000 in
theorem pH (n:Nat) (v:Value) (l:List Diff) (w:World) (M:Int) (hv:Diffs w v l) (hE:bX n M l) (hn:n≤999) (hl:l.length≤1000) (hM0:0≤M) (hM:M≤1000000) (hsol:∃X:Int→Int,∀d∈l,X d.x≤X d.y+d.c) :
  Calls Try.prog 34 #[.int .i64 n,v] w (GrRet w n l):=by
 have HV:=Lib.hid hv
 have HE:=Lib.hid hE
 have HSOL:=Lib.hid hsol
 obtain ⟨A,cp,rfl,h1,h2,h3,hr⟩:=hv
 unfold maxLen at h2
 clear h3 hr hE hsol
 have mk:=lQ n (by omega)
 have HS1:Hid (GS w (w.alloc (.cells (dH (List.replicate n 0)) 3)) w.heap.size (List.replicate n 0)):=⟨Blk.new _ _ _,Nat.le_refl _,(zL _ _).alloc (Nat.le_refl _) _⟩
 go_enter Try.func34,Try.ntmps34
 go_wp2_with fail
 generalize w.alloc (.cells (dH (List.replicate n 0)) 3)=W at *
 obtain ⟨gx,hgx⟩:∃gx,gx=w.heap.size:=⟨_,rfl⟩
 rw [←hgx] at HS1 ⊢
 clear mk hgx
 go_loopw [7] (fun ro wr=>∃(r:Nat) (a:Int) (xs bs:List Int),r≤n+1∧ro = .int .i64 r∧Round n M l r xs bs a∧GS w wr gx xs) (fun ro _=>n+1-(intOf ro).toNat)
 case atStart=>exact ⟨0, -1,_,_,by omega,rfl, .inl ⟨rfl,Bell.start n M l⟩,HS1.out⟩
 case round =>
  obtain ⟨r,a,xs,bs,hr,rfl,hro,hs⟩:=hrel
  have HRO:=Lib.hid hro
  have HS3:=Lib.hid hs
  clear hs hro HS1
  by_cases hrn:r≤n
  ·go_wp2_with fail
   go_loopw [8,20] (fun la i wr=>∃(j:Nat) (a:Int) (xs bs:List Int),j≤l.length∧i = .int .i64 j∧la = .bool (decide (0≤a)) ∧ -1≤a∧Bell n M l r j xs bs a∧GS w wr gx xs) (fun _ i _=>l.length-(intOf i).toNat)
   case atStart=>exact ⟨0, -1,_,_,by omega,rfl,rfl,by omega,HRO.out.go,HS3.out⟩
   case round =>
    obtain ⟨j,a,xs,bs,hj,rfl,rfl,ha1,hbe,hs⟩:=hrel
    have HBE:=Lib.hid hbe
    have HS4:=Lib.hid hs
    clear hs hbe
    by_cases hjl:j<l.length
    ·obtain ⟨d,hd⟩:∃d,l[j]? = some d:=⟨_,List.getElem?_eq_getElem hjl⟩
     have HD:=Lib.hid hd
     obtain ⟨A',c',hv', -, -, -,hrd⟩:=HV.out.keep HS4.out.bl
     injection hv' with e1 e2 e3
     subst e1 e3
     obtain ⟨b1,o1,rfl,hb1,hx1,hy1,hz1⟩:=hrd.diff hd
     obtain ⟨x0,x1,y0,y1,hne,c0,c1⟩:=HE.out j d hd
     obtain ⟨X,hX⟩:∃X:Nat,d.x=X:=⟨d.x.toNat,by omega⟩
     obtain ⟨Y,hY⟩:∃Y:Nat,d.y=Y:=⟨d.y.toNat,by omega⟩
     obtain ⟨lx,lb⟩:=HBE.out.lens
     obtain ⟨p,hp⟩:∃p,xs[X]? = some p:=⟨_,List.getElem?_eq_getElem (by omega)⟩
     obtain ⟨q,hq⟩:∃q,xs[Y]? = some q:=⟨_,List.getElem?_eq_getElem (by omega)⟩
     have HGX:Hid (gi xs d.x=p):=by
      refine Lib.hid ?_
      unfold gi;rw [hX,Int.toNat_natCast,List.getD_eq_getElem?_getD,hp];rfl
     have HGY:Hid (gi xs d.y=q):=by
      refine Lib.hid ?_
      unfold gi;rw [hY,Int.toNat_natCast,List.getD_eq_getElem?_getD,hq];rfl
     have HQ:Hid (-2000000000000≤q∧q≤0):=Lib.hid (mR HBE.out hM hl (by omega) hj q (List.mem_of_getElem? hq))
     have hq1:=HQ.out.1
     have hq2:=HQ.out.2
     have HX:=Lib.hid hX
     have HY:=Lib.hid hY
     rw [hX] at hx1
     rw [hY] at hy1
     have X1:X<n:=by omega
     have Y1:Y<n:=by omega
     clear hX hY lx lb hd hrd x0 x1 y0 y1 hne
     have sc:=qS (q+d.c) (by omega)
     have B1:=Lib.hid (Blk.new wr 50 #[.int .i64 X, .int .i64 Y, .int .i64 d.c])
     have HS5:Hid (GS w (wr.alloc (.cells #[.int .i64 X, .int .i64 Y, .int .i64 d.c] 50)) gx xs):=HS4.out.keep ((zL _ _).alloc (Nat.le_refl _) _)
     by_cases hgt:q+d.c<p
     ·have dg:(q+d.c<p)=True:=by simp [hgt]
      go_upto_region 9 with fail
      generalize wr.alloc (.cells #[.int .i64 X, .int .i64 Y, .int .i64 d.c] 50)=W2 at *
      have r0:=B1.out.cell 0
      have r1:=B1.out.cell 1
      have r2:=B1.out.cell 2
      have e1:=HS5.out.x.cell X
      have e2:=HS5.out.x.cell Y
      rw [gO hp] at e1
      rw [gO hq] at e2
      simp only [zA,zB,zC] at r0 r1 r2
      clear hp hq
      go_quiet (fail)
      go_wp2_with fail
      have z1:=HS5.out.x.frozen X
      have HBY:Hid (Bell n M l r (j+1) (xs.set X (q+d.c)) (bs.set X j) X):=by
       have h:=HBE.out.yes HE.out HD.out (by rw [HGX.out,HGY.out];exact hgt)
       rw [HGY.out,HX.out,Int.toNat_natCast] at h
       exact h
      go_region
      have HS6:=Lib.hid ((HS5.out.drewN (nq+1)).setX X (q+d.c))
      clear r0 r1 r2 e1 e2 z1
      generalize (W2.drewN (nq+1)).setCell ⟨gx,X,none⟩ (.int .i64 (q+d.c))=W3 at *
      go_wp2_with fail
      go_roundw
      case rel=>exact ⟨j+1,X,_,_,by omega,by go_num,by simp,by omega,HBY.out,HS6.out⟩
      case measure=>simp [intOf];omega
     ·have dg:(q+d.c<p)=False:=by simp [hgt]
      have HBN:Hid (Bell n M l r (j+1) xs bs a):=HBE.out.no hM0 HD.out (by rw [HGX.out,HGY.out];omega)
      go_upto_region 9 with fail
      generalize wr.alloc (.cells #[.int .i64 X, .int .i64 Y, .int .i64 d.c] 50)=W2 at *
      have r0:=B1.out.cell 0
      have r1:=B1.out.cell 1
      have r2:=B1.out.cell 2
      have e1:=HS5.out.x.cell X
      have e2:=HS5.out.x.cell Y
      rw [gO hp] at e1
      rw [gO hq] at e2
      simp only [zA,zB,zC] at r0 r1 r2
      clear hp hq
      go_quiet (fail)
      go_wp2_with fail
      go_roundw
      case rel=>exact ⟨j+1,a,xs,bs,by omega,by go_num,rfl,ha1,HBN.out,HS5.out.drewN _⟩
      case measure=>simp [intOf];omega
    ·have HBN:Hid (Bell n M l r l.length xs bs a):=by
      have h:=HBE.out
      rw [show j=l.length by omega] at h
      exact h
     by_cases hz:0≤a
     ·have dz:decide (0≤a)=true:=by simp [hz]
      go_wp2_with fail
      exact ⟨⟨r+1,a,xs,bs,by omega,by go_num, .inr ⟨r,rfl,HBN.out,hz⟩,HS4.out⟩,by simp [intOf];omega⟩
     ·have HBZ:Hid (Bell n M l r l.length xs bs (-1)):=by
       have h:=HBN.out
       rw [show a = -1 by omega] at h
       exact h
      have dz:decide (0≤a)=false:=by simp;omega
      go_wp2_with fail
      go_ret2
      refine ⟨gx,xs,rfl,HS4.out.x,HS4.out.lx,HBZ.out.lens.1,fun d hd => ?_,mR HBZ.out hM hl (by omega) (Nat.le_refl _),HS4.out.bl⟩
      obtain ⟨k,hk⟩:=qI hd
      exact HBZ.out.solved hk
  ·exfalso
   have HLA:Bell n M l n l.length xs bs a∧0≤a:=by
    rcases HRO.out with ⟨h,_⟩|⟨q,h1,h2,h3⟩
    ·omega
    ·rw [show q=n by omega] at h2;exact ⟨h2,h3⟩
   obtain ⟨p,hp0,hway,d,d0,d1,d2,d3,d4⟩:=HLA.1.way HE.out HLA.2 (by omega)
   obtain ⟨hks,hcy⟩:=fD hway d0 d2 d4
   obtain ⟨X,hX⟩:=HSOL.out
   obtain ⟨e,he,hno⟩:=cyc_no X hcy
   obtain ⟨k,hk,rfl⟩:=List.mem_map.1 he
   have hkl:=hks k hk
   have hmem:l.getD k ⟨0,0,0⟩∈l:=by
    rw [List.getD_eq_getElem?_getD,List.getElem?_eq_getElem hkl];exact yG hkl
   have:=hX _ hmem
   omega
def fitD (n:Nat) (d:Diff):Prop:=0≤d.x∧d.x<n∧0≤d.y∧d.y<n
set_option maxRecDepth 100000 in
theorem fitc_any (d:Diff) (n g:Nat) (W:World) (hd:fitD n d) (hb:Blk W g 3 #[.int .i64 (n:Int)]) :
  Calls Try.prog 96 #[.agg #[.int .i64 d.x, .int .i64 d.y, .int .i64 d.c], .pointer (some ⟨g,0,none⟩)] W fun e w'=>e = .returned (.bool false)∧Below W.heap.size W w':=by
 obtain ⟨d0,d1,d2,d3⟩:=hd
 have HB:=Lib.hid (((zL W.heap.size W).alloc (Nat.le_refl _) (.cells #[.int .i64 d.x, .int .i64 d.y, .int .i64 d.c] 50)))
 have b0:=(Blk.new W 50 #[.int .i64 d.x, .int .i64 d.y, .int .i64 d.c]).cell 0
 have b1:=(Blk.new W 50 #[.int .i64 d.x, .int .i64 d.y, .int .i64 d.c]).cell 1
 have q0:=(hb.alloc (.cells #[.int .i64 d.x, .int .i64 d.y, .int .i64 d.c] 50)).cell 0
 simp only [zA,zB,zC] at b0 b1 q0
 have y1:decide (d.x<0)=false:=by simp;omega
 have y2:decide (d.x≥(n:Int))=false:=by simp;omega
 have y3:decide (d.y<0)=false:=by simp;omega
 have y4:decide (d.y≥(n:Int))=false:=by simp;omega
 clear hb
 go_enter Try.func96,Try.ntmps96
 go_upto_region 1 with fail
 generalize W.alloc (.cells #[.int .i64 d.x, .int .i64 d.y, .int .i64 d.c] 50)=W1 at *
 go_wp2_with fail
 go_ret
 exact ⟨rfl,HB.out⟩
set_option maxRecDepth 100000 in
theorem idxD_any (v:Value) (l:List Diff) (n g:Nat) (w:World) (hv:Diffs w v l) (hf:∀d∈l,fitD n d) (hb:Blk w g 3 #[.int .i64 (n:Int)]) :
  Calls Try.prog 111 #[v, .func (.func 96) #[] #[.pointer (some ⟨g,0,none⟩)]] w fun e w'=>e = .returned (.int .i64 (-1))∧Below w.heap.size w w':=by
 have HV:=Lib.hid hv
 have HF:=Lib.hid hf
 have HB:=Lib.hid hb
 obtain ⟨A,c,rfl,h1,h2,h3,hr⟩:=hv
 unfold maxLen at h2
 clear h3 hr hb hf
 go_enter Try.func111,Try.ntmps111
 go_wp2_with fail
 go_loopw [5,8] (fun _ i wr=>∃k:Nat,k≤l.length∧i = .int .i64 k∧Below w.heap.size w wr) (fun _ i _=>l.length-(intOf i).toNat)
 case atStart=>exact ⟨0,by omega,rfl,zL _ _⟩
 case round =>
  obtain ⟨k,hk,rfl,hbw⟩:=hrel
  have HBW:=Lib.hid hbw
  clear hbw
  by_cases hlt:k<l.length
  ·obtain ⟨d,hd⟩:∃d,l[k]? = some d:=⟨_,List.getElem?_eq_getElem hlt⟩
   obtain ⟨A',c',hv', -, -, -,hrd⟩:=HV.out.keep HBW.out
   injection hv' with e1 e2 e3
   subst e1 e3
   obtain ⟨b1,o1,rfl,hb1,hx1,hy1,hz1⟩:=hrd.diff hd
   have HC:Hid (Calls Try.prog 96 #[.agg #[.int .i64 d.x, .int .i64 d.y, .int .i64 d.c], .pointer (some ⟨g,0,none⟩)] wr fun e w'=>e = .returned (.bool false)∧Below wr.heap.size wr w'):=Lib.hid (fitc_any d n g wr (HF.out d (List.mem_of_getElem? hd)) (HB.out.keep HBW.out))
   have y1:(k:Int)<(l.length:Int):=by omega
   clear hd hrd
   go_wp2_with fail
   refine HC.out.mono ?_
   rintro e w' ⟨rfl,hb'⟩
   have HB2:=Lib.hid (HBW.out.trans (hb'.mono HBW.out.size))
   clear hb' HC
   go_wp2_with fail
   go_roundw
   case rel=>exact ⟨k+1,by omega,by go_num,HB2.out⟩
   case measure=>simp [intOf];omega
  ·go_wp2_with fail
   go_ret
   exact ⟨rfl,HBW.out⟩
set_option maxRecDepth 100000 in
theorem cntD_any (v:Value) (l:List Diff) (n g:Nat) (w:World) (hv:Diffs w v l) (hf:∀d∈l,fitD n d) (hb:Blk w g 3 #[.int .i64 (n:Int)]) :
  Calls Try.prog 95 #[v, .func (.func 96) #[] #[.pointer (some ⟨g,0,none⟩)]] w fun e w'=>e = .returned (.bool false)∧Below w.heap.size w w':=by
 have HI:=Lib.hid (idxD_any v l n g w hv hf hb)
 obtain ⟨A,c,rfl,h1,h2,h3,hr⟩:=hv
 clear h3 hr h2 hf hb
 go_enter Try.func95,Try.ntmps95
 go_wp2_with fail
 refine HI.out.mono ?_
 rintro e w' ⟨rfl,hb⟩
 have HB:=Lib.hid hb
 clear hb
 go_wp2_with fail
 go_ret
 exact ⟨rfl,HB.out⟩
set_option maxRecDepth 100000 in
theorem fits_any (v:Value) (l:List Diff) (n:Nat) (w:World) (hv:Diffs w v l) (hn:n≤32) (hf:∀d∈l,fitD n d) :
  Calls Try.prog 86 #[.int .i64 (n:Int),v] w fun e w'=>e = .returned (.bool true)∧Below w.heap.size w w':=by
 have HC:=Lib.hid (cntD_any v l n w.heap.size (w.alloc (.cells #[.int .i64 (n:Int)] 3)) (hv.keep ((zL _ _).alloc (Nat.le_refl _) _)) hf (Blk.new w _ _))
 have HB:=Lib.hid (((zL w.heap.size w).alloc (Nat.le_refl _) (.cells #[.int .i64 (n:Int)] 3)))
 have b0:=(Blk.new w 3 #[.int .i64 (n:Int)]).cell 0
 simp only [zA,zB] at b0
 obtain ⟨A,c,rfl,h1,h2,h3,hr⟩:=hv
 have y1:decide ((n:Int)<0)=false:=by simp
 have y2:decide ((n:Int) > 32)=false:=by simp;omega
 have y3:decide (32<n)=false:=by simp [hn]
 have hmf:∀(fn:Fn) (first cap:Array Value) (W:World),(Instr.makeFunc fn first cap).run Try.prog W = .ok (.func fn first cap) W:=fun _ _ _ _=>rfl
 clear h3 hr h2 hf
 go_enter Try.func86,Try.ntmps86
 go_upto_region 1 with fail
 generalize w.alloc (.cells #[.int .i64 (n:Int)] 3)=W1 at *
 go_wp2_with fail
 refine HC.out.mono ?_
 rintro e w' ⟨rfl,hb⟩
 have HB2:=Lib.hid (HB.out.trans (hb.mono HB.out.size))
 clear hb
 go_wp2_with fail
 go_ret
 exact ⟨rfl,HB2.out⟩
end Go.Proofs.Yticieifacalocaa
