/- StpW RefLaw -/
import Derived.Test.YticieifacalocaaTSC25
import Derived.Test.YticieifacalocaaTSC13
namespace Go.Proofs.Yticieifacalocaa
open Go.RowKit
theorem oW (w:World) (P:Nat→Prop):IntsO w P (.slice none 0 0) []:=⟨none,0,rfl,by simp,by simp [maxLen],by simp,by simp⟩
theorem info_step:(Try.prog.info? 91).map (fun i=>(i.zero,i.size,i.bytes))=some (some (.agg #[.int .i64 0, .int .i64 0, .slice none 0 0, .int .i64 0, .int .i64 0, .int .i64 0]),6,64):=by kernel_rfl
def zT:Value := .agg #[.int .i64 0, .int .i64 0, .slice none 0 0, .int .i64 0, .int .i64 0, .int .i64 0]
theorem sO {f:Form} {a cs:List (List Int)} {l:List Stp} (h:gE f a l=(cs,true)) (r:List Stp):gE f a (l++r)=gE f cs r:=by
 induction l generalizing a with
 | nil=>rw [gE] at h;injection h with h _;rw [h];rfl
 | cons s l ih =>
  rw [gE] at h
  rw [qY,gE]
  cases e:deriv f s a with
  | none=>rw [e] at h;injection h with _ h;cases h
  | some c=>rw [e] at h;exact ih h
theorem pB {f:Form} {a cs:List (List Int)} {l:List Stp} (h:gE f a l=(cs,true)):cs.length=a.length+l.length:=by
 induction l generalizing a with
 | nil=>rw [gE] at h;injection h with h _;rw [h];simp
 | cons s l ih =>
  rw [gE] at h
  cases e:deriv f s a with
  | none=>rw [e] at h;injection h with _ h;cases h
  | some c=>rw [e] at h;have:=ih h;simp at this ⊢;omega
def Good (f:Form) (ps:List Stp) (cs:List (List Int)):Prop:=gE f [] ps=(cs,true)
theorem Good.nil (f:Form):Good f [] []:=rfl
theorem Good.snoc {f:Form} {ps:List Stp} {cs:List (List Int)} {s:Stp} {c:List Int} (h:Good f ps cs) (hd:deriv f s cs=some c):Good f (ps++[s]) (cs++[c]):=by
 unfold Good at h ⊢
 rw [sO h,gE,hd]
 rfl
theorem Good.len {f:Form} {ps:List Stp} {cs:List (List Int)} (h:Good f ps cs):cs.length=ps.length:=by
 have:=pB h;simpa using this
def Fits (atoms:List Diff) (bs:List Bool) (xs:List Int):Prop:=∀(i:Nat) (d:Diff),atoms[i]? = some d→bs[i]? = some (decide (gi xs d.x-gi xs d.y≤d.c))
theorem tE {atoms:List Diff} {bs:List Bool} {xs:List Int} (hf:Fits atoms bs xs) {lit:Int} {d:Diff} (hb:bound atoms lit=some d):(holds bs lit=true∧gi xs d.x-gi xs d.y≤d.c)∨holds bs (-lit)=true:=by
 rcases aF lit with rfl|⟨n,rfl⟩|⟨n,rfl⟩
 ·rw [bound_zero] at hb;cases hb
 ·rw [eS] at hb
  have h1:=hf n d hb
  by_cases h:gi xs d.x-gi xs d.y≤d.c
  ·refine .inl ⟨?_,h⟩
   rw [aD,List.getD_eq_getElem?_getD,h1];simp [h]
  ·refine .inr ?_
   rw [aB,h1];simp [h]
 ·rw [eX] at hb
  obtain ⟨a,ha,rfl⟩:=qW.1 hb
  have h1:=hf n a ha
  by_cases h:gi xs a.x-gi xs a.y≤a.c
  ·refine .inr ?_
   rw [show -(-((n:Int)+1))=(n:Int)+1 by omega,aD,List.getD_eq_getElem?_getD,h1];simp [h]
  ·refine .inl ⟨?_,?_⟩
   ·rw [aB,h1];simp [h]
   ·simp only [Diff.opp];omega
theorem chain_sum (X:Int→Int) (ds:List Diff) (d0:Diff) (h:∀(i:Nat) (a b:Diff),(d0::ds)[i]? = some a→(d0::ds)[i+1]? = some b→a.y=b.x) :
  ((d0::ds).map fun d=>X d.x-X d.y).sum=X d0.x-X ((d0::ds).getLast (by simp)).y:=by
 induction ds generalizing d0 with
 | nil=>simp
 | cons d1 r ih =>
  have h01:=h 0 d0 d1 rfl rfl
  have:=ih d1 fun i a b h1 h2=>h (i+1) a b h1 h2
  rw [zY,vB,this,List.getLast_cons (List.cons_ne_nil d1 r),h01]
  omega
theorem cyc_sum (X:Int→Int) {ds:List Diff} (h:aV ds ds.length):(ds.map fun d=>X d.x-X d.y).sum=0:=by
 cases ds with
 | nil=>rfl
 | cons d0 r =>
  rw [chain_sum X r d0 fun i a b h1 h2 => ?_]
  ·have hlast:(d0::r)[r.length]? = some ((d0::r).getLast (by simp)):=by
    rw [uV];simp
   have:=h r.length _ d0 (by simp) hlast (by simp)
   rw [this];omega
  ·have hi:=(zG.1 h2).1
   refine h i a b (by omega) h1 ?_
   rw [uW hi];exact h2
theorem sum_le_map {α:Type} (p q:α→Int) (l:List α) (h:∀d∈l,p d≤q d):(l.map p).sum≤(l.map q).sum:=by
 induction l with
 | nil=>simp
 | cons d r ih =>
  have h1:=h d (by simp)
  have h2:=ih fun d hd=>h d (by simp [hd])
  simp only [zY,vB]
  omega
theorem cyc_no (X:Int→Int) {ds:List Diff} (h:Cyc ds):∃d∈ds,¬X d.x-X d.y≤d.c:=by
 apply qH
 intro hn
 have h1:=cyc_sum X h.2.1
 have h2:=sum_le_map (fun d:Diff=>X d.x-X d.y) (fun d:Diff=>d.c) ds fun d hd=>qH fun hc=>hn ⟨d,hd,hc⟩
 have h3:=h.2.2
 unfold csum at h3
 have e:(ds.map fun d:Diff=>d.c)=ds.map Diff.c:=rfl
 rw [e] at h2
 omega
theorem nZ {xs c:List Int} (h:gB xs=some c) (p:Int→Bool):c.any p=xs.any p:=by
 have hs:=gV xs
 rw [h] at hs
 rw [Bool.eq_iff_iff,kF,kF]
 exact ⟨fun ⟨x,h1,h2⟩=>⟨x,(hs.2.1 x).1 h1,h2⟩,fun ⟨x,h1,h2⟩=>⟨x,(hs.2.1 x).2 h1,h2⟩⟩
theorem bnds_mem {atoms:List Diff} {lits:List Int} {ds:List Diff} (h:lB atoms lits=some ds) {d:Diff} (hd:d∈ds):∃x∈lits,bound atoms x=some d:=by
 have h1:=bA.1 h
 have h2:some d∈ds.map some:=List.mem_map.2 ⟨d,hd,rfl⟩
 rw [←h1] at h2
 obtain ⟨x,h3,h4⟩:=List.mem_map.1 h2
 exact ⟨x,h3,h4⟩
theorem holds_one (bs:List Bool) (v:Int) (h:holds bs v=true):holds bs (-v)=false:=by
 rcases aF v with rfl|⟨n,rfl⟩|⟨n,rfl⟩
 ·rfl
 ·rw [aD,List.getD_eq_getElem?_getD] at h
  rw [aB]
  cases e:bs[n]? with
  | none=>rfl
  | some b=>rw [e] at h;simp at h;simp [h]
 ·rw [aB] at h
  rw [show -(-((n:Int)+1))=(n:Int)+1 by omega,aD,List.getD_eq_getElem?_getD]
  cases e:bs[n]? with
  | none=>rw [e] at h;cases h
  | some b=>rw [e] at h;simp at h;simp [h]
theorem sS {f:Form} {bs:List Bool} {xs:List Int} (hf:Fits f.atoms bs xs) (hc:∀c∈f.clauses,c.any (holds bs)=true) {s:Stp} {cs:List (List Int)} (hcs:∀c∈cs,c.any (holds bs)=true) {c:List Int} (h:deriv f s cs=some c):c.any (holds bs)=true:=by
 unfold deriv at h
 split at h
 ·split at h
  ·obtain ⟨a,h1,h2⟩:=yA.1 h
   rw [nZ h2]
   exact hc a (List.mem_of_getElem? h1)
  ·cases h
 ·split at h
  ·unfold cyc at h
   split at h
   ·rename_i ds hds
    split at h
    ·rename_i hcy
     rw [nZ h,kF]
     obtain ⟨d,hd,hno⟩:=cyc_no (gi xs) (show Cyc ds from by simpa [cycB] using hcy)
     obtain ⟨x,hx,hbx⟩:=bnds_mem hds hd
     rcases tE hf hbx with ⟨_,h2⟩|h2
     ·exact absurd h2 hno
     ·exact ⟨-x,List.mem_map.2 ⟨x,hx,rfl⟩,h2⟩
    ·cases h
   ·cases h
  ·split at h
   ·split at h
    ·obtain ⟨a,h1,h2⟩:=yA.1 h
     obtain ⟨b,h3,h4⟩:=yA.1 h2
     unfold res at h4
     split at h4
     ·rw [nZ h4]
      have ha:=hcs a (List.mem_of_getElem? h1)
      have hb:=hcs b (List.mem_of_getElem? h3)
      rw [kF] at ha hb ⊢
      obtain ⟨x,hx,hx2⟩:=ha
      obtain ⟨y,hy,hy2⟩:=hb
      by_cases e1:x=s.var+1
      ·by_cases e2:y = -(s.var+1)
       ·subst e1 e2
        have:=holds_one bs _ hx2
        rw [this] at hy2;cases hy2
       ·exact ⟨y,List.mem_append_right _ (yO.2 ⟨hy,by simpa using e2⟩),hy2⟩
      ·exact ⟨x,qN _ (yO.2 ⟨hx,by simpa using e1⟩),hx2⟩
     ·cases h4
    ·cases h
   ·cases h
theorem runS_holds {f:Form} {bs:List Bool} {xs:List Int} (hf:Fits f.atoms bs xs) (hc:∀c∈f.clauses,c.any (holds bs)=true) {a cs:List (List Int)} {l:List Stp} {b:Bool} (h:gE f a l=(cs,b)) (ha:∀c∈a,c.any (holds bs)=true):∀c∈cs,c.any (holds bs)=true:=by
 induction l generalizing a with
 | nil=>rw [gE] at h;injection h with h _;rw [←h];exact ha
 | cons s l ih =>
  rw [gE] at h
  cases e:deriv f s a with
  | none=>rw [e] at h;injection h with h _;rw [←h];exact ha
  | some c =>
   rw [e] at h
   refine ih h fun c' hc' => ?_
   rcases zK.1 hc' with hc'|hc'
   ·exact ha c' hc'
   ·simp at hc';subst hc';exact sS hf hc ha e
def s0:Stp:=⟨0,0,[],0,0,0⟩
def ndStep (l:List Stp) (nd:List Bool) (i:Nat):List Bool :=
 if nd.getD i false=true∧(l.getD i s0).kind=3 then (nd.set (l.getD i s0).p.toNat true).set (l.getD i s0).q.toNat true else nd
def gG (l:List Stp):Nat→List Bool
 | 0=>(List.replicate l.length false).set (l.length-1) true
 | j+1=>ndStep l (gG l j) (l.length-1-j)
def nd (l:List Stp):List Bool:=gG l l.length
def bareS (s:Stp) (pl:List Int):Stp :=
 if s.kind=1 then ⟨s.kind,s.index,[],0,0,0⟩ else if s.kind=2 then ⟨s.kind,0,s.lits,0,0,0⟩ else ⟨s.kind,0,[],gi pl s.p,gi pl s.q,s.var⟩
def dE (l:List Stp) (n:List Bool):Nat→List Int × List Stp
 | 0=>(List.replicate l.length 0,[])
 | k+1=>if n.getD k false=true then ((dE l n k).1.set k ((dE l n k).2.length:Int),(dE l n k).2++[bareS (l.getD k s0) ((dE l n k).1.set k ((dE l n k).2.length:Int))]) else dE l n k
def oC (l:List Stp):List Stp:=(dE l (nd l) l.length).2
def Back (l:List Stp):Prop:=∀(i:Nat),i<l.length→(l.getD i s0).kind=3→0≤(l.getD i s0).p∧(l.getD i s0).p<i∧0≤(l.getD i s0).q∧(l.getD i s0).q<i
theorem dM {α:Type} (l:List α) (i j:Nat) (a z:α):(l.set i a).getD j z=if i=j∧j<l.length then a else l.getD j z:=by
 rw [List.getD_eq_getElem?_getD,kR,List.getD_eq_getElem?_getD]
 by_cases h:i=j
 ·subst h
  by_cases h2:i<l.length
  ·simp [h2]
  ·simp [h2]
 ·simp [h]
theorem ndStep_len (l:List Stp) (n:List Bool) (i:Nat):(ndStep l n i).length=n.length:=by unfold ndStep;split<;>simp
theorem ndFrom_len (l:List Stp) (j:Nat):(gG l j).length=l.length:=by
 induction j with
 | zero=>simp [gG]
 | succ j ih=>rw [gG,ndStep_len,ih]
theorem tO {l:List Stp} {n:List Bool} {i m:Nat} (h:n.getD m false=true):(ndStep l n i).getD m false=true:=by
 unfold ndStep
 split
 ·rw [dM]
  split
  ·rfl
  ·rw [dM]
   split
   ·rfl
   ·exact h
 ·exact h
theorem bR {l : List Stp} {j k m : Nat} (hjk : j ≤ k) (h : (gG l j).getD m false = true) : (gG l k).getD m false = true := by
  induction k with
  | zero => obtain rfl : j = 0 := by omega
            exact h
  | succ k ih =>
    by_cases e : j = k + 1
    · rw [← e]; exact h
    · rw [gG]; exact tO (ih (by omega))
theorem nd_last {l:List Stp} (h:0<l.length) (j:Nat):(gG l j).getD (l.length-1) false=true:=by
 refine bR (zR j) ?_
 rw [gG,dM,if_pos ⟨rfl,by simp;omega⟩]
theorem ndStep_at {l:List Stp} (hb:Back l) {n:List Bool} {i m:Nat} (hi:i<l.length) (hm:i≤m):(ndStep l n i).getD m false=n.getD m false:=by
 unfold ndStep
 split
 ·rename_i h
  obtain ⟨h1,h2,h3,h4⟩:=hb i hi h.2
  rw [dM,if_neg (by omega),dM,if_neg (by omega)]
 ·rfl
theorem nd_fix {l:List Stp} (hb:Back l) {i j:Nat} (hi:i<l.length) (hj:l.length-i≤j+1) (hj2:j≤l.length):(gG l j).getD i false=(gG l (l.length-1-i)).getD i false:=by
 induction j with
 | zero=>rw [show l.length-1-i=0 by omega]
 | succ j ih =>
  by_cases e:l.length-i≤j+1
  ·rw [gG,ndStep_at hb (by omega) (by omega)]
   exact ih e (by omega)
  ·rw [show l.length-1-i=j+1 by omega]
theorem oP {l:List Stp} (hb:Back l) {i:Nat} (hi:i<l.length) (h:(nd l).getD i false=true) (hk:(l.getD i s0).kind=3):(nd l).getD (l.getD i s0).p.toNat false=true∧(nd l).getD (l.getD i s0).q.toNat false=true:=by
 obtain ⟨h1,h2,h3,h4⟩:=hb i hi hk
 unfold nd at h ⊢
 rw [nd_fix hb hi (by omega) (Nat.le_refl _)] at h
 have e:gG l (l.length-1-i+1)=((gG l (l.length-1-i)).set (l.getD i s0).p.toNat true).set (l.getD i s0).q.toNat true:=by
  rw [gG,show l.length-1-(l.length-1-i)=i by omega,ndStep,if_pos ⟨h,hk⟩]
 have hl:=ndFrom_len l (l.length-1-i)
 constructor
 ·refine bR (j:=l.length-1-i+1) (by omega) ?_
  rw [e,dM]
  split
  ·rfl
  ·rw [dM,if_pos ⟨rfl,by omega⟩]
 ·refine bR (j:=l.length-1-i+1) (by omega) ?_
  rw [e,dM,if_pos ⟨rfl,by rw [qF];omega⟩]
theorem nd_least {l:List Stp} (hb:Back l) {j m:Nat} (hj:j≤l.length) (h:(gG l j).getD m false=true):m=l.length-1∨∃i,m<i∧i<l.length∧(gG l j).getD i false=true∧(l.getD i s0).kind=3∧(m=(l.getD i s0).p.toNat∨m=(l.getD i s0).q.toNat):=by
 induction j with
 | zero =>
  left
  rw [gG,dM] at h
  split at h
  ·rename_i e;exact e.1.symm
  ·rw [List.getD_eq_getElem?_getD,List.getElem?_replicate] at h
   split at h<;>cases h
 | succ j ih =>
  have keep:(gG l j).getD m false=true→m=l.length-1∨∃i,m<i∧i<l.length∧(gG l (j+1)).getD i false=true∧(l.getD i s0).kind=3∧(m=(l.getD i s0).p.toNat∨m=(l.getD i s0).q.toNat):=fun h=>by
   rcases ih (by omega) h with e|⟨i,h1,h2,h3,h4,h5⟩
   ·exact .inl e
   ·exact .inr ⟨i,h1,h2,bR (wI j) h3,h4,h5⟩
  have h':=h
  rw [gG,ndStep] at h'
  split at h'
  ·rename_i e
   obtain ⟨b1,b2,b3,b4⟩:=hb (l.length-1-j) (by omega) e.2
   have hme:(gG l (j+1)).getD (l.length-1-j) false=true:=bR (wI j) e.1
   rw [dM] at h'
   split at h'
   ·rename_i e2
    exact .inr ⟨l.length-1-j,by omega,by omega,hme,e.2, .inr e2.1.symm⟩
   ·rw [dM] at h'
    split at h'
    ·rename_i e2
     exact .inr ⟨l.length-1-j,by omega,by omega,hme,e.2, .inl e2.1.symm⟩
    ·exact keep h'
  ·exact keep h'
def ndIx (n:List Bool) (k:Nat):List Nat:=(List.range k).filter fun i=>n.getD i false
def rk (n:List Bool) (k:Nat):Nat:=(ndIx n k).length
theorem cF {n:List Bool} {k:Nat} (h:n.getD k false=true):ndIx n (k+1)=ndIx n k++[k]:=by
 unfold ndIx;rw [List.range_succ,List.filter_append];simp only [List.filter_cons,h,if_true,List.filter_nil]
theorem mG {n:List Bool} {k:Nat} (h:¬n.getD k false=true):ndIx n (k+1)=ndIx n k:=by
 unfold ndIx;rw [List.range_succ,List.filter_append];simp only [List.filter_cons,h,List.filter_nil];simp
theorem rk_mono (n : List Bool) {j k : Nat} (h : j ≤ k) : rk n j ≤ rk n k := by
  induction k with
  | zero => obtain rfl : j = 0 := by omega
            exact Nat.le_refl _
  | succ k ih =>
    by_cases e : j = k + 1
    · rw [e]; exact Nat.le_refl _
    · refine qA (ih (by omega)) ?_
      unfold rk
      by_cases hk : n.getD k false = true
      · rw [cF hk]; simp
      · rw [mG hk]; exact Nat.le_refl _
theorem rk_lt {n:List Bool} {j k:Nat} (h:j<k) (hj:n.getD j false=true):rk n j<rk n k:=by
 refine qD ?_ (rk_mono n (show j+1≤k from h))
 unfold rk
 rw [cF hj];simp
theorem rk_le (n:List Bool) (k:Nat):rk n k≤k:=by
 unfold rk ndIx
 exact qA (yZ _ _) (by simp)
theorem ndIx_at {n:List Bool} {j k:Nat} (h:j<k) (hj:n.getD j false=true):(ndIx n k)[rk n j]? = some j:=by
 induction k with
 | zero=>omega
 | succ k ih =>
  by_cases e:j=k
  ·subst e
   rw [cF hj]
   unfold rk
   rw [zL (Nat.le_refl _)];simp
  ·have h1:=ih (by omega)
   have hlt:=(zG.1 h1).1
   by_cases hk:n.getD k false=true
   ·rw [cF hk,zP hlt];exact h1
   ·rw [mG hk];exact h1
theorem ndIx_mem {n:List Bool} {j k:Nat} (h:j∈ndIx n k):j<k∧n.getD j false=true:=by
 unfold ndIx at h
 obtain ⟨h1,h2⟩:=yO.1 h
 exact ⟨by simpa using h1,h2⟩
def bareR (n:List Bool) (s:Stp):Stp :=
 if s.kind=1 then ⟨s.kind,s.index,[],0,0,0⟩ else if s.kind=2 then ⟨s.kind,0,s.lits,0,0,0⟩ else ⟨s.kind,0,[],rk n s.p.toNat,rk n s.q.toNat,s.var⟩
def Kinds (l:List Stp):Prop:=∀i,i<l.length→(l.getD i s0).kind=1∨(l.getD i s0).kind=2∨(l.getD i s0).kind=3
theorem mU (l:List Stp) (n:List Bool) (k:Nat):(dE l n k).1.length=l.length:=by
 induction k with
 | zero=>simp [dE]
 | succ k ih=>rw [dE];split<;>simp [ih]
theorem trTo_is {l:List Stp} (hb:Back l) (hkd:Kinds l) {k:Nat} (hk:k≤l.length):(∀i,i<k→(nd l).getD i false=true→gi (dE l (nd l) k).1 i=(rk (nd l) i:Int))∧(dE l (nd l) k).2=(ndIx (nd l) k).map fun i=>bareR (nd l) (l.getD i s0):=by
 induction k with
 | zero=>exact ⟨fun i h=>by omega,rfl⟩
 | succ k ih =>
  obtain ⟨h1,h2⟩:=ih (by omega)
  by_cases h:(nd l).getD k false=true
  ·have hl:(dE l (nd l) k).2.length=rk (nd l) k:=by rw [h2];simp [rk]
   have hp:∀i,i<k+1→(nd l).getD i false=true→gi ((dE l (nd l) k).1.set k ((dE l (nd l) k).2.length:Int)) i=(rk (nd l) i:Int):=by
    intro i hi hn
    unfold gi
    rw [Int.toNat_natCast,dM,mU]
    split
    ·rename_i e;rw [hl,e.1]
    ·have:=h1 i (by omega) hn
     unfold gi at this
     rwa [Int.toNat_natCast] at this
   rw [dE,if_pos h]
   refine ⟨hp,?_⟩
   show (dE l (nd l) k).2++[bareS (l.getD k s0) ((dE l (nd l) k).1.set k ((dE l (nd l) k).2.length:Int))]=_
   rw [cF h,List.map_append,←h2,zY,yY]
   refine congrArg (fun s=>(dE l (nd l) k).2++[s]) ?_
   unfold bareS bareR
   split
   ·rfl
   ·split
    ·rfl
    ·rename_i k1 k2
     have k3:(l.getD k s0).kind=3:=by rcases hkd k (by omega) with e|e|e<;>first|exact e|exact absurd e k1|exact absurd e k2
     obtain ⟨b1,b2,b3,b4⟩:=hb k (by omega) k3
     obtain ⟨c1,c2⟩:=oP hb (by omega) h k3
     have e1:=hp (l.getD k s0).p.toNat (by omega) c1
     have e2:=hp (l.getD k s0).q.toNat (by omega) c2
     rw [xI b1] at e1
     rw [xI b3] at e2
     rw [e1,e2]
  ·rw [dE,if_neg h,mG h]
   refine ⟨fun i hi hn=>h1 i ?_ hn,h2⟩
   by_cases e:i=k
   ·rw [e] at hn;exact absurd hn h
   ·omega
theorem rC {l:List Stp} (hb:Back l) (hkd:Kinds l):oC l=(ndIx (nd l) l.length).map fun i=>bareR (nd l) (l.getD i s0):=(trTo_is hb hkd (Nat.le_refl _)).2
theorem runS_at {f:Form} {a cs:List (List Int)} {l:List Stp} (h:gE f a l=(cs,true)) {i:Nat} (hi:i<l.length):∃c,cs[a.length+i]? = some c∧deriv f (l.getD i s0) (cs.take (a.length+i))=some c:=by
 induction l generalizing a i with
 | nil=>simp at hi
 | cons s l ih =>
  rw [gE] at h
  cases e:deriv f s a with
  | none=>rw [e] at h;injection h with _ h;cases h
  | some c =>
   rw [e] at h
   cases i with
   | zero =>
    have hpre:∀{a cs:List (List Int)} {l:List Stp},gE f a l=(cs,true)→∃r,cs=a++r:=by
     intro a cs l
     induction l generalizing a with
     | nil=>intro h;rw [gE] at h;injection h with h _;exact ⟨[],by simp [h]⟩
     | cons s l ih =>
      intro h
      rw [gE] at h
      cases e:deriv f s a with
      | none=>rw [e] at h;injection h with _ h;cases h
      | some c =>
       rw [e] at h
       obtain ⟨r,hr⟩:=ih h
       exact ⟨c::r,by rw [hr];simp⟩
    obtain ⟨r,hr⟩:=hpre h
    refine ⟨c,?_,?_⟩
    ·rw [hr];simp
    ·rw [hr];simpa using e
   | succ i =>
    obtain ⟨c',h1,h2⟩:=ih h (i:=i) (by simpa using hi)
    refine ⟨c',?_,?_⟩
    ·rw [←h1];simp;congr 1;omega
    ·rw [jW,show a.length+(i+1)=(a++[c]).length+i by simp;omega];exact h2
theorem Good.at_ {f:Form} {l:List Stp} {cs:List (List Int)} (h:Good f l cs) {i:Nat} (hi:i<l.length):∃c,cs[i]? = some c∧deriv f (l.getD i s0) (cs.take i)=some c:=by
 have:=runS_at h hi
 simpa using this
theorem fN {f:Form} {s:Stp} {cs:List (List Int)} {c:List Int} (h:deriv f s cs=some c):(s.kind=1∨s.kind=2∨s.kind=3)∧(s.kind=3→0≤s.p∧s.p<cs.length∧0≤s.q∧s.q<cs.length)∧(s.kind=1→0≤s.index∧s.index<f.clauses.length):=by
 unfold deriv at h
 split at h
 ·rename_i k1
  refine ⟨.inl k1,fun k3=>by omega,fun _ => ?_⟩
  split at h
  ·rename_i h0
   obtain ⟨a,h1,_⟩:=yA.1 h
   have:=(zG.1 h1).1
   omega
  ·cases h
 ·rename_i k1
  split at h
  ·rename_i k2
   exact ⟨.inr (.inl k2),fun k3=>by omega,fun e=>absurd e k1⟩
  ·split at h
   ·rename_i k3
    refine ⟨.inr (.inr k3),fun _ => ?_,fun e=>absurd e k1⟩
    split at h
    ·obtain ⟨a,h1,h2⟩:=yA.1 h
     obtain ⟨b,h3,_⟩:=yA.1 h2
     have:=(zG.1 h1).1
     have:=(zG.1 h3).1
     omega
    ·cases h
   ·cases h
theorem Good.back {f:Form} {l:List Stp} {cs:List (List Int)} (h:Good f l cs):Back l:=fun i hi hk=>by
 obtain ⟨c,h1,h2⟩:=h.at_ hi
 have h3:=(fN h2).2.1 hk
 have:(cs.take i).length≤i:=xK _ _
 omega
theorem Good.kinds {f:Form} {l:List Stp} {cs:List (List Int)} (h:Good f l cs):Kinds l:=fun i hi=>by
 obtain ⟨c,h1,h2⟩:=h.at_ hi
 exact (fN h2).1
theorem trim_good {f:Form} {l:List Stp} {cs:List (List Int)} (h:Good f l cs) {k:Nat} (hk:k≤l.length):Good f ((ndIx (nd l) k).map fun i=>bareR (nd l) (l.getD i s0)) ((ndIx (nd l) k).map fun i=>cs.getD i []):=by
 induction k with
 | zero=>exact Good.nil f
 | succ k ih =>
  have hg:=ih (by omega)
  by_cases hn:(nd l).getD k false=true
  ·rw [cF hn,List.map_append,List.map_append]
   obtain ⟨c,h1,h2⟩:=h.at_ (i:=k) (by omega)
   have hc:cs.getD k []=c:=by rw [List.getD_eq_getElem?_getD,h1];rfl
   rw [zY,yY,zY,yY,hc]
   refine hg.snoc ?_
   have hkd:=fN h2
   have key:∀j,j<k→(nd l).getD j false=true→((ndIx (nd l) k).map fun i=>cs.getD i [])[rk (nd l) j]? = (cs.take k)[j]? := by
    intro j hj hnj
    rw [List.getElem?_map,ndIx_at hj hnj,qS,if_pos hj,yX,List.getD_eq_getElem?_getD]
    have:j<cs.length:=by have:=h.len;omega
    rw [List.getElem?_eq_getElem this];rfl
   generalize hs:l.getD k s0=s at h2 hkd
   unfold bareR
   unfold deriv at h2 ⊢
   split
   ·rename_i k1
    simp only [k1,if_true] at h2 ⊢
    exact h2
   ·rename_i k1
    split
    ·rename_i k2
     simp only [k2,if_true] at h2 ⊢
     exact h2
    ·rename_i k2
     have k3:s.kind=3:=by rcases hkd.1 with e|e|e<;>first|exact e|exact absurd e k1|exact absurd e k2
     obtain ⟨b1,b2,b3,b4⟩:=hkd.2.1 k3
     have hlt:(cs.take k).length≤k:=xK _ _
     obtain ⟨c1,c2⟩:=oP h.back (by omega) hn (by rw [hs];exact k3)
     rw [hs] at c1 c2
     rw [if_neg k1,if_neg k2,if_pos k3,if_pos ⟨b1,b3⟩] at h2
     simp only [if_pos k3]
     rw [if_pos ⟨by omega,by omega⟩,Int.toNat_natCast,Int.toNat_natCast,key _ (by omega) c1,key _ (by omega) c2]
     exact h2
  ·rw [mG hn];exact hg
def Refutes (f:Form) (l:List Stp):Prop:=∃cs,Good f l cs∧0<l.length∧cs.getD (l.length-1) []=[]
theorem rk_pos {l:List Stp} (h0:0<l.length):0<rk (nd l) l.length:=by
 have:=rk_lt (n:=nd l) (j:=l.length-1) (k:=l.length) (by omega) (nd_last h0 _)
 omega
theorem ndIx_last {l:List Stp} (h0:0<l.length):(ndIx (nd l) l.length)[rk (nd l) l.length-1]? = some (l.length-1):=by
 have hn:(nd l).getD (l.length-1) false=true:=nd_last h0 _
 have h1:=ndIx_at (k:=l.length) (show l.length-1<l.length by omega) hn
 have e:rk (nd l) l.length=rk (nd l) (l.length-1)+1:=by
  have:ndIx (nd l) l.length=ndIx (nd l) (l.length-1)++[l.length-1]:=by
   have:=cF hn
   rwa [show l.length-1+1=l.length by omega] at this
  unfold rk;rw [this];simp
 rw [e,uM];exact h1
theorem trim_len {f:Form} {l:List Stp} {cs:List (List Int)} (h:Good f l cs):(oC l).length=rk (nd l) l.length:=by rw [rC h.back h.kinds];simp [rk]
theorem fZ {f:Form} {l:List Stp} (h:Refutes f l):Refutes f (oC l)∧(oC l).length≤l.length:=by
 obtain ⟨cs,hg,h0,hl⟩:=h
 have hlen:=trim_len hg
 refine ⟨⟨_,by rw [rC hg.back hg.kinds];exact trim_good hg (Nat.le_refl _),by rw [hlen];exact rk_pos h0,?_⟩,by rw [hlen];exact rk_le _ _⟩
 rw [hlen,List.getD_eq_getElem?_getD,List.getElem?_map,ndIx_last h0]
 exact hl
end Go.Proofs.Yticieifacalocaa
