/- SolCon SolObs -/
import Derived.Test.YticieifacalocaaTSH33
import Derived.Test.YticieifacalocaaTSH28
namespace Go.Proofs.Yticieifacalocaa
open Go.RowKit
def dS (l:Int):Prop := -1048576≤l∧l≤1048576
theorem wayF_bd {by_:List Arc} {r:Int} (hb:∀b∈by_,dS b.lit):∀(k:Nat) (n:Int) (l:List Int),aP by_ r k n=some l→l.length<k∧∀x∈l,dS x:=by
 intro k
 induction k with
 | zero=>intro n l h;cases h
 | succ k ih =>
  intro n l h
  rw [aP] at h
  split at h
  ·injection h with h;subst h;simp
  ·split at h
   ·cases h2:aP by_ r k (ga by_ n).y with
    | none=>rw [h2] at h;cases h
    | some l2 =>
     rw [h2] at h
     injection h with h
     subst h
     obtain ⟨a1,a2⟩:=ih _ _ h2
     refine ⟨by simp;omega,fun x hx => ?_⟩
     rcases zV.1 hx with rfl|hx
     ·rename_i hn
      refine hb _ ?_
      unfold ga
      rw [List.getD_eq_getElem?_getD,List.getElem?_eq_getElem (by omega)]
      exact xG _
     ·exact a2 x hx
   ·cases h
theorem lL {by_:List Arc} {b:Arc} (hb:∀b∈by_,dS b.lit) (h:dS b.lit) (i:Nat):∀c∈by_.set i b,dS c.lit:=fun c hc=>by
 rcases xB hc with h1|h1
 ·exact hb c h1
 ·rw [h1];exact h
theorem lowArcs_in {ay n:Int}:∀(l:List Arc) (num:List Int) (by_:List Arc) (wait:List Bool) (q:List Int),(∀b∈l,dS b.lit)→(∀b∈by_,dS b.lit) →
  (∀num2 by2 w2 q2,gB ay n l num by_ wait q=some (.inl (num2,by2,w2,q2))→∀b∈by2,dS b.lit)∧(∀by2,gB ay n l num by_ wait q=some (.inr by2)→∀b∈by2,dS b.lit):=by
 intro l
 induction l with
 | nil =>
  intro num by_ wait q _ hb
  refine ⟨fun n2 b2 w2 q2 h => ?_,fun b2 h => ?_⟩
  ·rw [gB] at h;injection h with h;injection h with h;injection h with h1 h2;injection h2 with h2 h3;subst h2;exact hb
  ·rw [gB] at h;injection h with h;cases h
 | cons b rest ih =>
  intro num by_ wait q hl hb
  have hr:∀c∈rest,dS c.lit:=fun c hc=>hl c (by simp [hc])
  have hbl:=hl b (by simp)
  refine ⟨fun n2 b2 w2 q2 h => ?_,fun b2 h => ?_⟩
  ·obtain ⟨-, -,h1|h1|h1|h1⟩:=cN h
   ·exact (ih _ _ _ _ hr hb).1 _ _ _ _ h1.2
   ·cases h1.2.2
   ·exact (ih _ _ _ _ hr (lL hb hbl _)).1 _ _ _ _ h1.2.2.2.2
   ·exact (ih _ _ _ _ hr (lL hb hbl _)).1 _ _ _ _ h1.2.2.2.2
  ·obtain ⟨-, -,h1|h1|h1|h1⟩:=cN h
   ·exact (ih _ _ _ _ hr hb).2 _ h1.2
   ·have h2:=h1.2.2;injection h2 with h2;subst h2;exact lL hb hbl _
   ·exact (ih _ _ _ _ hr (lL hb hbl _)).2 _ h1.2.2.2.2
   ·exact (ih _ _ _ _ hr (lL hb hbl _)).2 _ h1.2.2.2.2
theorem sA {arcs:List (List Arc)} {a:Arc} (ha:∀y,∀b∈arcs.getD y [],dS b.lit) (hal:dS a.lit):∀(k:Nat) (num:List Int) (by_:List Arc) (wait:List Bool) (q:List Int) (l:List Int),(∀b∈by_,dS b.lit)→gV arcs a k num by_ wait q=some (.inr l)→l.length≤1000∧∀x∈l,dS x:=by
 intro k
 induction k with
 | zero=>intro num by_ wait q l _ h;cases h
 | succ k ih =>
  intro num by_ wait q l hb h
  cases q with
  | nil=>rw [gV] at h;injection h with h;cases h
  | cons n q =>
   rw [gV] at h
   split at h
   ·obtain ⟨i1,i2⟩:=lowArcs_in (ay:=a.y) (n:=n) (arcs.getD n.toNat []) num by_ (wait.set n.toNat false) q (ha _) hb
    split at h
    ·cases h
    ·rename_i n2 b2 w2 q2 hl
     exact ih _ _ _ _ _ (i1 _ _ _ _ hl) h
    ·rename_i b2 hl
     cases hw:aP b2 a.x 1000 a.y with
     | none=>rw [hw] at h;cases h
     | some l2 =>
      rw [hw] at h
      injection h with h
      injection h with h
      subst h
      obtain ⟨a1,a2⟩:=wayF_bd (i2 _ hl) _ _ _ hw
      refine ⟨by simp;omega,fun x hx => ?_⟩
      rcases zK.1 hx with hx|hx
      ·exact a2 x hx
      ·rw [zH] at hx;rw [hx];exact hal
   ·cases h
theorem lowerF_in {arcs:List (List Arc)} {a:Arc} {num:List Int} {fuel:Nat} {l:List Int} (ha:∀y,∀b∈arcs.getD y [],dS b.lit) (hal:dS a.lit) (h:lowerF fuel arcs num a=some (.inr l)):l.length≤1000∧∀x∈l,dS x:=by
 unfold lowerF at h
 refine sA ha hal _ _ _ _ _ _ (fun b hb => ?_) h
 rcases xB hb with h1|h1
 ·rw [(List.mem_replicate.1 h1).2];exact ⟨by show -1048576≤(0:Int);omega,by show (0:Int)≤1048576;omega⟩
 ·rw [h1];exact hal
theorem HB.hold {κ:Kap} {w:World} {c:Col} {g:Nat} {xs:List Int} (h:HB κ w c g 3 (ci xs).toArray) (hm:xs.length≤maxLen):Hold κ w c 3 1 (.slice (some ⟨g,0,none⟩) xs.length xs.length) xs.length (ci xs) :=
 ⟨⟨by rw [fO,yA], .inr ⟨g,xs.length,_,rfl,zQ _,h.b,Nat.le_refl _,hm,by simp [fO],by rw [yA];exact zU (by simp [fO])⟩⟩,fun k hk=>by injection hk with hk;subst hk;exact h.k⟩
def eF:Col→Prop
 | .slv | .num | .arcs | .ar _ | .act | .cls | .org=>True
 | _=>False
theorem pK {c:Col} (h:eV c):eF c:=by cases c<;>first|trivial|exact h
theorem addC_con {c:Col} (h:lM c):eF c:=by cases c<;>first|trivial|exact h
theorem dM {fuel:Nat} {f:Form} {s s2:Sol} {lit r:Int} (h:constrainF fuel f s lit=some (s2,r)) :
  (bound f.atoms lit=none∧s2=s∧r = -1)∨∃(x y:Nat) (c:Int) (o:List Int ⊕ List Int),bound f.atoms lit=some ⟨x,y,c⟩∧x<s.num.length∧y<s.num.length ∧ -2097152≤c∧c≤2097152∧s.arcs.length=s.num.length∧iK (gi s.num x)=true∧iK (gi s.num y)=true∧(s.arcs.getD y []).length<LIM∧litB s.act.length lit=true ∧
   (if c<gi s.num x-gi s.num y then lowerF fuel s.arcs s.num ⟨lit,x,y,c⟩ else some (.inl s.num))=some o ∧
   ((∃num,o = .inl num∧s2=putF s num lit x y c∧r = -1)∨∃l,o = .inr l∧lowerF fuel s.arcs s.num ⟨lit,x,y,c⟩=some (.inr l)∧s.addF (l.map fun l => -l) ⟨⟨2,0,l,0,0,0⟩,0,[]⟩=some s2∧r=(s.e.cls.length:Int)):=by
 unfold constrainF at h
 split at h
 ·rename_i hb
  injection h with h
  injection h with h1 h2
  exact .inl ⟨hb,h1.symm,h2.symm⟩
 ·rename_i d hb
  obtain ⟨dx,dy,dc⟩:=d
  simp only at h
  split at h
  ·rename_i hc
   obtain ⟨h1,h2,h3,h4,h5,h6⟩:=hc
   obtain ⟨b1,b2,b3,b4,b5,b6⟩:=rI h1
   simp only at b1 b2 b3 b4 b5 b6
   obtain ⟨x,rfl⟩:∃x:Nat,dx=x:=⟨dx.toNat,by omega⟩
   obtain ⟨y,rfl⟩:∃y:Nat,dy=y:=⟨dy.toNat,by omega⟩
   simp only [Int.toNat_natCast] at h h5
   right
   split at h
   ·rename_i hlt
    split at h
    ·cases h
    ·rename_i num hl
     injection h with h
     injection h with e1 e2
     exact ⟨x,y,dc, .inl num,hb,by omega,by omega,b5,b6,h2,h3,h4,h5,h6,by rw [if_pos hlt];exact hl, .inl ⟨num,rfl,e1.symm,e2.symm⟩⟩
    ·rename_i lits hl
     cases ha:s.addF (lits.map fun l => -l) ⟨⟨2,0,lits,0,0,0⟩,0,[]⟩ with
     | none=>rw [ha] at h;cases h
     | some s3 =>
      rw [ha] at h
      injection h with h
      injection h with e1 e2
      exact ⟨x,y,dc, .inr lits,hb,by omega,by omega,b5,b6,h2,h3,h4,h5,h6,by rw [if_pos hlt];exact hl, .inr ⟨lits,rfl,hl,by rw [ha,e1],e2.symm⟩⟩
   ·rename_i hlt
    injection h with h
    injection h with e1 e2
    exact ⟨x,y,dc, .inl s.num,hb,by omega,by omega,b5,b6,h2,h3,h4,h5,h6,by rw [if_neg hlt], .inl ⟨s.num,rfl,e1.symm,e2.symm⟩⟩
  ·cases h
section
variable {κ:Kap} {w:World} {g:Nat} {s:Sol} {V:EV} {U:SV} {f:Form}
set_option maxRecDepth 100000 in
set_option maxHeartbeats 8000000 in
theorem mM (h:SolM κ w g s V U) (hd:DU κ w U.av f.atoms) (hC:∀d∈f.atoms, -9223372036854775807≤d.c) (hN:s.num.length≤1000000) {lit r:Int} (hl:I64 lit) {fuel:Nat} {s2:Sol} (hq:constrainF fuel f s lit=some (s2,r)) :
  Calls Try.prog 56 #[.pointer (some ⟨g,0,none⟩), .int .i64 lit] w (wP κ w g U eF (.int .i64 r) s2):=by
 have q13:=h.eng.cellR (i:=4) rfl
 have q14:=h.eng.cellR (i:=5) rfl
 have q15:=h.eng.cellR (i:=6) rfl
 have q16:=h.eng.cellR (i:=7) rfl
 simp only [Nat.reduceAdd] at q13 q14 q15 q16
 have HBN:=Lib.hid (cD (.int .i64 U.fi) (.int .i64 U.fb) U.av U.cv f.atoms w lit hd.diffs hC hl)
 have HS:=Lib.hid h
 have HNN:=Lib.hid hN
 have hnn1:∀W,(Go.binOp .eql 33 (.slice none 0 0) (.slice none 0 0)).run Try.prog W = .ok (.bool true) W:=fun W=>by kernel_rfl
 have hnn2:∀W g2 n c,(Go.binOp .eql 33 (.slice (some ⟨g2,0,none⟩) n c) (.slice none 0 0)).run Try.prog W = .ok (.bool false) W:=fun W g2 n c=>by kernel_rfl
 rcases dM hq with ⟨hb,rfl,rfl⟩|⟨x,y,c,o,hb,hx,hy,c1,c2,haln,rx,ry,hlim,hlb,ho,hcase⟩
 ·rw [hb] at HBN
  clear h hd hC hq hN hb
  go_enter Try.func56,Try.ntmps56
  go_wp2_with fail
  refine HBN.out.mono ?_
  rintro en W1 ⟨rfl,hb1⟩
  have HFIN:Hid (wP κ w g U eF (.int .i64 (-1)) s2 (.returned (.int .i64 (-1))) (W1.alloc (.cells #[.int .i64 0, .int .i64 0, .int .i64 0] 50))):=Lib.hid ⟨rfl,κ,V,U,(HS.out.keep hb1).alloc _,(Fr.kept κ hb1 eF).trans (Fr.alloc _ _ _ _), .refl U⟩
  clear hb1 HBN HS q13 q14 q15 q16
  unfold boundVal Diff.val
  go_wp2_with fail
  go_ret
  exact HFIN.out
 ·rw [hb] at HBN
  have HCS:=Lib.hid hcase
  have hlb':litB s.e.val.length lit=true:=by rw [←h.actl];exact hlb
  have HINS:Hid (∀κ1 W1,SolM κ1 W1 g s V U→Calls Try.prog 76 #[.pointer (some ⟨g,10,none⟩), .agg #[.int .i64 lit, .int .i64 x, .int .i64 y, .int .i64 c]] W1 (eC κ1 W1 g s V U lit x y c o)) :=
   Lib.hid fun κ1 W1 h1=>sO h1 hx hy c1 c2 rx ry hN hlb' hlim ho
  have HLB:=Lib.hid hlb'
  clear h hd hC hq hN hb hx hy c1 c2 haln rx ry hlim hlb ho hcase hlb'
  go_enter Try.func56,Try.ntmps56
  go_wp2_with fail
  refine HBN.out.mono ?_
  rintro en W1 ⟨rfl,hb1⟩
  have HS1:=Lib.hid (HS.out.keep hb1)
  have HF1:=Lib.hid (Fr.kept κ hb1 eF)
  clear hb1 HBN HS q13 q14 q15 q16
  unfold boundVal Diff.val
  go_upto_region 4 with fail
  have f2:=Fr.make κ W1 (.cells #[.int .i64 (x:Int), .int .i64 (y:Int), .int .i64 c] 50) (.tmp 0) (fun _=>False)
  have HS2:=Lib.hid ((HS1.out.fr f2 fun _ _=>id).drewN 1)
  have HF2:=Lib.hid ((HF1.out.trans (f2.mono (T:=eF) fun _=>False.elim)).trans (Fr.drewN _ _ 1 _))
  have hb2:=HB.new κ W1 (.tmp 0) #[.int .i64 (x:Int), .int .i64 (y:Int), .int .i64 c] 50
  have d0:=hb2.cell 0
  have d1:=hb2.cell 1
  have d2:=hb2.cell 2
  simp only [zA,zB,zC] at d0 d1 d2
  clear f2 hb2 HS1 HF1
  generalize W1.alloc (.cells #[.int .i64 (x:Int), .int .i64 (y:Int), .int .i64 c] 50)=W2 at *
  generalize kset κ W1.heap.size (.tmp 0)=κ2 at *
  go_region_law (refine wC rfl 76 _ _ rfl _ Try.func76 (by kernel_rfl) (by kernel_rfl) #[.pointer (some ⟨g,10,none⟩), .agg #[.int .i64 lit, .int .i64 (x:Int), .int .i64 (y:Int), .int .i64 c]] (by first|rfl|(simp [Act.eval];done)|(simp [Act.eval,Act.put];done)) (HINS.out κ2 (W2.drewN 1) HS2.out) (fun e w' h=>by cases o with
   | inl num=>exact ⟨_,h.1⟩
   | inr l=>obtain ⟨g2,c2,U2,h1, -⟩:=h;exact ⟨_,h1⟩) ?_;intro v9 w9 hir;have HIR:=Lib.hid hir;clear hir)
  clear d0 d1 d2 HINS
  cases o with
  | inl num =>
   obtain ⟨hv,κ3,U3,hs3,hf3,hsm⟩:=HIR.out
   injection hv with hv
   subst hv
   have hcs:s2=putF s num lit x y c∧r = -1:=by
    rcases HCS.out with ⟨n2,h1,h2,h3⟩|⟨l,h1, -⟩
    ·injection h1 with h1;subst h1;exact ⟨h2,h3⟩
    ·cases h1
   have HFIN:Hid (wP κ w g U eF (.int .i64 r) s2 (.returned (.int .i64 (-1))) w9):=Lib.hid ⟨by rw [hcs.2],κ3,V,U3,by rw [hcs.1];exact hs3,HF2.out.trans (hf3.mono fun c hc=>pK hc),hsm⟩
   clear hs3 hf3 hsm hcs HIR HCS HS2 HF2
   go_wp2_with fail
   go_ret
   exact HFIN.out
  | inr l =>
   obtain ⟨g2,c2,U3,hv,hl0,hsm,hcol⟩:=HIR.out
   injection hv with hv
   subst hv
   obtain ⟨κ3,hs3,hh3,hf3⟩:=hcol (.olt s.org.length)
   obtain ⟨hlow,hadd,hr⟩:lowerF fuel s.arcs s.num ⟨lit,x,y,c⟩=some (.inr l)∧s.addF (l.map fun l => -l) ⟨⟨2,0,l,0,0,0⟩,0,[]⟩=some s2∧r=(s.e.cls.length:Int):=by
    rcases HCS.out with ⟨n2,h1, -⟩|⟨l2,h1,h2,h3,h4⟩
    ·cases h1
    ·injection h1 with h1;subst h1;exact ⟨h2,h3,h4⟩
   have hin:=lowerF_in (fun y b hb=>HS2.out.arl y b hb) (by have:=wZ (by have:=HS2.out.eng.B;omega) HLB.out;exact this) hlow
   have HLI:=Lib.hid hin.2
   have hll:=hin.1
   have HAD:=Lib.hid (And.intro hadd hr)
   have HS3:=Lib.hid hs3
   have HH3:=Lib.hid hh3
   have HF3:=Lib.hid (HF2.out.trans (hf3.mono fun c hc=>pK hc))
   have HSM:=Lib.hid hsm
   clear hs3 hh3 hf3 hcol hlow hadd hr hsm hin HIR HCS HS2 HF2
   obtain ⟨gl,cl,e1, -, -,hlc,hlm, -, -⟩:=HH3.out.open_ hl0
   injection e1 with e1 _ e2
   injection e1 with e1
   injection e1 with e1 _ _
   subst e1
   clear e2
   have HL0:=Lib.hid hl0
   have mk1:=mk_ints l.length (by omega)
   unfold maxLen at hlm
   go_upto_region 8 with fail
   have f4:=Fr.make κ3 w9 (.cells (bU (List.replicate l.length 0)) 3) (.tmp 1) (fun _=>False)
   have HS4:Hid (SolM (kset κ3 w9.heap.size (.tmp 1)) (w9.alloc (.cells (bU (List.replicate l.length 0)) 3)) g s V U3∧HB (kset κ3 w9.heap.size (.tmp 1)) (w9.alloc (.cells (bU (List.replicate l.length 0)) 3)) (.tmp 1) w9.heap.size 3 (bU (sB 0 l.length ((l.take 0).map fun l => -l)))∧Hold (kset κ3 w9.heap.size (.tmp 1)) (w9.alloc (.cells (bU (List.replicate l.length 0)) 3)) (.olt s.org.length) 3 1 (.slice (some ⟨g2,0,none⟩) l.length c2) l.length (ci l)∧Fr κ (kset κ3 w9.heap.size (.tmp 1)) w (w9.alloc (.cells (bU (List.replicate l.length 0)) 3)) eF) :=
    Lib.hid ⟨HS3.out.fr f4 fun _ _=>id,by rw [show sB (0:Int) l.length ((l.take 0).map fun l => -l)=List.replicate l.length 0 by simp [sB]];exact HB.new κ3 w9 (.tmp 1) _ _,HH3.out.fr f4 id,HF3.out.trans (f4.mono fun _=>False.elim)⟩
   have HGN:Hid (w.heap.size≤w9.heap.size):=Lib.hid HF3.out.size
   clear f4 HS3 HH3 HF3 mk1
   generalize w9.alloc (.cells (bU (List.replicate l.length 0)) 3)=W4 at *
   generalize kset κ3 w9.heap.size (.tmp 1)=κ4 at *
   generalize w9.heap.size=gc at *
   go_upto_region 9 with fail
   go_loopw [36] (fun i wr=>∃k:Nat,k≤l.length∧i = .int .i64 k∧Hid (SolM κ4 wr g s V U3∧HB κ4 wr (.tmp 1) gc 3 (bU (sB 0 l.length ((l.take k).map fun l => -l)))∧Hold κ4 wr (.olt s.org.length) 3 1 (.slice (some ⟨g2,0,none⟩) l.length c2) l.length (ci l)∧Fr κ κ4 w wr eF)) (fun i _=>l.length-(intOf i).toNat)
   case atStart=>exact ⟨0,zQ _,rfl,HS4⟩
   case round =>
    clear HS4
    obtain ⟨k,hk,rfl,HS⟩:=hrel
    by_cases hlt:k<l.length
    ·obtain ⟨z,hz⟩:∃z,l[k]? = some z:=⟨_,List.getElem?_eq_getElem hlt⟩
     obtain ⟨gl,cl2,e1, -, -, -, -,hcc, -⟩:=HS.out.2.2.1.open_ HL0.out
     injection e1 with e1 _ e2
     injection e1 with e1
     injection e1 with e1 _ _
     subst e1
     have qz:=hcc k _ (wU hz)
     have hzi:=HLI.out z (List.mem_of_getElem? hz)
     obtain ⟨z1,z2⟩:=hzi
     have htl:((l.take k).map fun l => -l).length=k:=by simp;omega
     have hset:(sB 0 l.length ((l.take k).map fun l => -l)).set k (-z)=sB 0 l.length ((l.take (k+1)).map fun l => -l):=by
      rw [pad_set (by rw [htl];exact hlt) htl,wL hz,List.map_append];rfl
     have qo:=HS.out.2.1.cell k
     rw [iM (x:=0) (pad_at hlt (by rw [htl];exact Nat.le_refl _))] at qo
     have zo:=HS.out.2.1.frozen k
     have hrow:HB κ4 (wr.setCell ⟨gc,k,none⟩ (.int .i64 (-z))) (.tmp 1) gc 3 (bU (sB 0 l.length ((l.take (k+1)).map fun l => -l))):=by
      refine ⟨?_,HS.out.2.1.k⟩
      rw [←hset]
      exact HS.out.2.1.b.setI k (-z)
     have fs:=frs κ4 wr (i:=k) (u := .int .i64 (-z)) HS.out.2.1.k
     have HN:Hid (SolM κ4 (wr.setCell ⟨gc,k,none⟩ (.int .i64 (-z))) g s V U3∧HB κ4 (wr.setCell ⟨gc,k,none⟩ (.int .i64 (-z))) (.tmp 1) gc 3 (bU (sB 0 l.length ((l.take (k+1)).map fun l => -l)))∧Hold κ4 (wr.setCell ⟨gc,k,none⟩ (.int .i64 (-z))) (.olt s.org.length) 3 1 (.slice (some ⟨g2,0,none⟩) l.length c2) l.length (ci l)∧Fr κ κ4 w (wr.setCell ⟨gc,k,none⟩ (.int .i64 (-z))) eF) :=
      Lib.hid ⟨HS.out.1.fr fs (fun c hc e=>by subst e;exact hc),hrow,HS.out.2.2.1.fr fs (by simp),HS.out.2.2.2.loc (jY wr gc k (.int .i64 (-z))) (fun j e=>by injection e with e;subst e;exact HGN.out)⟩
     have yk:(k:Int)<(l.length:Int):=by omega
     have yz:IntKind.i64.wrap (-z) = -z:=by rw [qS];omega
     clear hz hcc e2 htl hset hrow fs HS
     go_wp2_with fail
     clear yz
     go_roundw
     case rel=>exact ⟨k+1,by omega,by go_num,HN⟩
     case measure=>simp [intOf];omega
    ·have hkl:k=l.length:=by omega
     subst hkl
     have yk:¬(l.length<l.length):=by omega
     have hrow:=HS.out.2.1
     rw [yC,pad_full (by simp)] at hrow
     have hrow2:HB κ4 wr (.tmp 1) gc 3 (ci (l.map fun l => -l)).toArray:=hrow
     have hkg:κ4 gc=some (.tmp 1):=hrow.k
     have hne:∀c,wO c→∀j,κ4 j=some c→kset κ4 gc (.cl s.e.cls.length) j=some c:=fun c hc j hj=>by
      unfold kset
      split
      ·rename_i e;subst e;rw [hkg] at hj;injection hj with hj;subst hj;exact hc.elim
      ·exact hj
     have HS5:Hid (SolM (kset κ4 gc (.cl s.e.cls.length)) wr g s V U3):=Lib.hid (HS.out.1.rc hne)
     have HO5:Hid (Hold (kset κ4 gc (.cl s.e.cls.length)) wr (.olt s.org.length) 3 1 (.slice (some ⟨g2,0,none⟩) l.length c2) l.length (ci l)):=Lib.hid (HS.out.2.2.1.rc (hne _ trivial))
     have HF5:Hid (Fr κ (kset κ4 gc (.cl s.e.cls.length)) w wr eF):=Lib.hid (HS.out.2.2.2.recol fun j hj=>by unfold kset;rw [if_neg (by have:=HGN.out;omega)])
     have HC5:Hid (Hold (kset κ4 gc (.cl s.e.cls.length)) wr (.cl s.e.cls.length) 3 1 (.slice (some ⟨gc,0,none⟩) (l.map fun l => -l).length (l.map fun l => -l).length) (l.map fun l => -l).length (ci (l.map fun l => -l))) :=
      Lib.hid (HB.hold (κ:=kset κ4 gc (.cl s.e.cls.length)) ⟨hrow2.b,by unfold kset;rw [if_pos rfl]⟩ (by simp;unfold maxLen;omega))
     obtain ⟨ha,hr⟩:=HAD.out
     unfold Sol.addF at ha
     split at ha
     ·rename_i hlim
      injection ha with ha
      have hadd:=iG (o:=⟨⟨2,0,l,0,0,0⟩,0,[]⟩) (p:=(.slice (some ⟨g2,0,none⟩) l.length c2, .slice none 0 0)) HS5.out HC5.out HO5.out (Hold.nil _ _ _ _ _) hlim.1 hlim.2
      rw [List.length_map] at hadd
      have HADD:Hid (Calls Try.prog 66 #[.pointer (some ⟨g,0,none⟩), .slice (some ⟨gc,0,none⟩) l.length l.length, .agg #[.int .i64 2, .int .i64 0, .slice (some ⟨g2,0,none⟩) l.length c2, .int .i64 0, .int .i64 0, .int .i64 0, .int .i64 0, .slice none 0 0]] wr (wP (kset κ4 gc (.cl s.e.cls.length)) wr g U3 lM (.int .i64 (s.e.cls.length:Int)) s2)):=Lib.hid (by rw [←ha];exact hadd)
      clear hadd hlim ha hrow hrow2 hkg hne HS HC5 HO5 hk hlt
      go_wp2_with fail
      refine HADD.out.mono ?_
      rintro en W6 ⟨rfl,κ6,V6,U6,hs6,hf6,hsm6⟩
      have HFIN:Hid (wP κ w g U eF (.int .i64 r) s2 (.returned (.int .i64 (s.e.cls.length:Int))) W6):=Lib.hid ⟨by rw [hr],κ6,V6,U6,hs6,HF5.out.trans (hf6.mono fun c hc=>addC_con hc),HSM.out.trans hsm6⟩
      clear hs6 hf6 hsm6 HADD HS5 HF5
      go_wp2_with fail
      go_ret
      exact HFIN.out
     ·cases ha
end
def obsV (g:Nat):Value := .func (.func 56) #[.pointer (some ⟨g,0,none⟩)] #[]
theorem conC_sol {c:Col} (h:eF c):wO c:=by cases c<;>first|trivial|exact h
structure SB (s:Sol):Prop where
 c:s.e.cls.length≤LIM
 n:s.num.length≤1000000
theorem SB.con {κ κ':Kap} {w w':World} {g:Nat} {s s2:Sol} {V V':EV} {U U':SV} {f:Form} {fuel:Nat} {lit r:Int} (h:SB s) (hm:SolM κ w g s V U) (hm2:SolM κ' w' g s2 V' U') (hq:constrainF fuel f s lit=some (s2,r)):SB s2:=by
 rcases dM hq with ⟨-,rfl, -⟩|⟨x,y,c,o, -, -, -, -, -, -, -, -, -, -, -,⟨num, -,rfl, -⟩|⟨l, -, -,ha, -⟩⟩
 ·exact h
 ·refine ⟨h.c,?_⟩
  have h1:=hm2.aln
  have h2:=hm.aln
  have h3:=h.n
  simp only [putF,zX] at h1
  show num.length≤1000000
  omega
 ·unfold Sol.addF at ha
  split at ha
  ·rename_i hl
   injection ha with ha
   subst ha
   exact ⟨by have:=hl.1;simp;omega,h.n⟩
  ·cases ha
section
variable {κ:Kap} {w:World} {g:Nat} {s:Sol} {V:EV} {U:SV} {f:Form}
def ObS (κ:Kap) (w:World) (g:Nat) (U:SV) (f:Form) (s2:Sol) (r:Int) (k:Nat) (κ1:Kap) (wr:World) (s1:Sol) (V1:EV) (U1:SV):Prop :=
 SolM κ1 wr g s1 V1 U1∧Fr κ κ1 w wr wO∧U.same U1∧SB s1∧bR f k s1=some (s2,r)
theorem lG {k:Nat} {s1 s2:Sol} {r:Int} (h:bR f (k+1) s1=some (s2,r)):(s1.e.tr[s1.e.hd]? = none∧s2=s1∧r = -1)∨∃lit e2 c,s1.e.tr[s1.e.hd]? = some lit∧litB s1.e.val.length lit=true∧gR (-lit) { s1.e with hd:=s1.e.hd+1 } (s1.e.wat (-lit)) []=some (e2,c) ∧
  ((0≤c∧s2={ s1 with e:=e2 }∧r=c)∨(c<0∧∃s3 c2,constrainF k f { s1 with e:=e2 } lit=some (s3,c2)∧((0≤c2∧s2=s3∧r=c2)∨(c2<0∧bR f k s3=some (s2,r))))):=by
 rw [bR] at h
 split at h
 ·rename_i ht;injection h with h;injection h with h1 h2;exact .inl ⟨ht,h1.symm,h2.symm⟩
 ·rename_i lit ht
  right
  split at h
  ·rename_i hl
   split at h
   ·cases h
   ·rename_i e2 c hf
    refine ⟨lit,e2,c,ht,hl,hf,?_⟩
    split at h
    ·rename_i hc;injection h with h;injection h with h1 h2;exact .inl ⟨hc,h1.symm,h2.symm⟩
    ·rename_i hc
     right
     refine ⟨by omega,?_⟩
     split at h
     ·cases h
     ·rename_i s3 c2 hcon
      refine ⟨s3,c2,hcon,?_⟩
      split at h
      ·rename_i hc2;injection h with h;injection h with h1 h2;exact .inl ⟨hc2,h1.symm,h2.symm⟩
      ·rename_i hc2;exact .inr ⟨by omega,h⟩
  ·cases h
set_option maxRecDepth 100000 in
set_option maxHeartbeats 8000000 in
theorem sprop_any (h:SolM κ w g s V U) (hob:U.ob=obsV g) (hd:DU κ w U.av f.atoms) (hC:∀d∈f.atoms, -9223372036854775807≤d.c) (hB:SB s) {n:Nat} {s2:Sol} {r:Int} (hp:bR f n s=some (s2,r)) :
  Calls Try.prog 39 #[.pointer (some ⟨g,0,none⟩)] w (wP κ w g U wO (.int .i64 r) s2):=by
 have HS0:Hid (ObS κ w g U f s2 r n κ w s V U):=Lib.hid ⟨h,Fr.refl _ _ _, .refl U,hB,hp⟩
 have HD:=Lib.hid hd
 have HC:=Lib.hid hC
 have HOB:=Lib.hid hob
 have hnf:∀W f a c,(Go.binOp .eql 81 (.func f a c) .nilFunc).run Try.prog W = .ok (.bool false) W:=fun W f a c=>by kernel_rfl
 clear h hd hC hB hp hob
 go_enter Try.func39,Try.ntmps39
 go_wp2_with fail
 go_loopg [2] n (fun k vr2 wr=>∃(κ1:Kap) (s1:Sol) (V1:EV) (U1:SV),Hid (ObS κ w g U f s2 r k κ1 wr s1 V1 U1))
 case atStart=>exact ⟨κ,s,V,U,HS0⟩
 case round =>
  clear HS0
  obtain ⟨κ1,s1,V1,U1,HS⟩:=hrel
  obtain ⟨hm,hF,hsm,hsb,hpr⟩:=HS.out
  have q8:=hm.eng.cellE (i:=8) rfl
  have q6:=hm.eng.cellE (i:=6) rfl
  obtain ⟨At,ct,hvt,hct,hcm⟩:=hm.eng.tr.shape
  unfold maxLen at hcm
  rw [hvt] at q6
  cases gk with
  | zero=>cases hpr
  | succ k =>
  rcases lG hpr with ⟨hlit,rfl,rfl⟩|⟨lit,e2,c,hlit,hl,hfal,hcase⟩
  ·have hge:s2.e.tr.length≤s2.e.hd:=by rw [xS] at hlit;exact hlit
   have yl:¬s2.e.hd<s2.e.tr.length:=by omega
   clear hlit hvt hge hpr hm hF hsm hsb
   go_wp2_with fail
   go_region
   go_wp2_with fail
   go_ret
   exact ⟨rfl,κ1,V1,U1,HS.out.1.drewN 1,HS.out.2.1.trans (Fr.drew _ _ _),HS.out.2.2.1⟩
  ·have hlt:s1.e.hd<s1.e.tr.length:=(zG.1 hlit).1
   obtain ⟨l0,l1⟩:=wN hl
   have hB:=hm.eng.B
   have hi:=wZ (by omega) hl
   have hl':litB s1.e.val.length (-lit)=true:=by
    have:vr (-lit)=vr lit:=by unfold vr;omega
    exact decide_eq_true ⟨by omega,by rw [this];exact l1⟩
   have hA:∃ga,At=some ⟨ga,0,none⟩∧wr.cell? ⟨ga,s1.e.hd,none⟩=some (.int .i64 lit)∧wr.frozen? ⟨ga,s1.e.hd,none⟩=false:=by
    obtain ⟨g2,cap2,e1', -, -, -, -,hcc2,hz⟩:=hm.eng.tr.open_ (by omega)
    rw [hvt] at e1'
    injection e1' with e1' _ _
    exact ⟨g2,e1',hcc2 _ _ (wU hlit),hz _⟩
   obtain ⟨ga,rfl,qt,zt⟩:=hA
   have yl:decide ((s1.e.hd:Int)<(s1.e.tr.length:Int))=true:=by simp;omega
   have y2:(s1.e.hd:Int)<(s1.e.tr.length:Int):=by omega
   have yn:IntKind.i64.wrap (-lit) = -lit:=by rw [qS];omega
   have yh:IntKind.i64.wrap ((s1.e.hd:Int)+1)=((s1.e.hd+1:Nat):Int):=by rw [qS];omega
   have z8:=hm.eng.frz 8
   have HL:=Lib.hid (And.intro hl' hfal)
   have HK:=Lib.hid hcase
   have HX:=Lib.hid (And.intro l0 (And.intro l1 hi))
   clear hlit hl hl' hfal hcase hvt l0 l1 hi hB hpr hm hF hsm hsb
   go_wp2_with fail
   go_region
   go_wp2_with fail
   go_region
   go_upto_region 4 with fail
   have HE2:Hid (EngM κ1 (wr.setCell ⟨g,8,none⟩ (.int .i64 ((s1.e.hd:Int)+1))).drew.drew g 89 (U1.rest s1.num.length s1.e.val.length s1.rst) 0 { s1.e with hd:=s1.e.hd+1 } V1):=Lib.hid ((HS.out.1.eng.setHd (s1.e.hd+1)).drewN 2)
   have hf2:Fr κ1 κ1 wr (wr.setCell ⟨g,8,none⟩ (.int .i64 ((s1.e.hd:Int)+1))).drew.drew wK:=((frs κ1 wr HS.out.1.eng.blk.k).mono fun s hs=>by subst hs;trivial).trans ((Fr.drew κ1 _ wK).trans (Fr.drew κ1 _ wK))
   have HS2:Hid (SolM κ1 (wr.setCell ⟨g,8,none⟩ (.int .i64 ((s1.e.hd:Int)+1))).drew.drew g { s1 with e:={ s1.e with hd:=s1.e.hd+1 } } V1 U1):=Lib.hid (HS.out.1.withE hf2 (fun c hc=>hc) HE2.out rfl)
   have HF2:Hid (Fr κ κ1 w (wr.setCell ⟨g,8,none⟩ (.int .i64 ((s1.e.hd:Int)+1))).drew.drew wO):=Lib.hid (HS.out.2.1.trans (hf2.mono fun c hc=>dL hc))
   have HSM:=Lib.hid HS.out.2.2.1
   have HSB:=Lib.hid HS.out.2.2.2.1
   clear hf2 HE2
   generalize (wr.setCell ⟨g,8,none⟩ (.int .i64 ((s1.e.hd:Int)+1))).drew.drew=W2 at *
   clear HS q8 q6 qt zt z8 yl y2 yh
   have HV:=Lib.hid (fS HS2.out.eng HL.out.1 HSB.out.c HL.out.2)
   go_wp2_with fail
   refine (HV.out).mono ?_
   rintro en W ⟨rfl,κ3,V3,hE3,hF3⟩
   have hlen:=fC _ _ _ HL.out.2
   have HS3:Hid (SolM κ3 W g { s1 with e:=e2 } V3 U1):=Lib.hid (HS2.out.withE hF3 (fun c hc=>hc) hE3 hlen.2.1)
   have HF3:Hid (Fr κ κ3 w W wO):=Lib.hid (HF2.out.trans (hF3.mono fun c hc=>dL hc))
   have HSB3:Hid (SB { s1 with e:=e2 }):=Lib.hid ⟨by show e2.cls.length≤LIM;rw [hlen.1];exact HSB.out.c,HSB.out.n⟩
   clear hE3 hF3 hlen HV HS2 HF2 HSB yn
   have q9:=HS3.out.eng.cellR (i:=0) (u:=obsV g) (by show some U1.ob=some (obsV g);rw [HSM.out.1,HOB.out])
   unfold obsV at q9
   by_cases hc:0≤c
   ·have hr:s2={ s1 with e:=e2 }∧r=c:=by
     rcases HK.out with h0|h0
     ·exact ⟨h0.2.1,h0.2.2⟩
     ·omega
    have HFIN:Hid (wP κ w g U wO (.int .i64 r) s2 (.returned (.int .i64 c)) W):=Lib.hid ⟨by rw [hr.2],κ3,V3,U1,by rw [hr.1];exact HS3.out,HF3.out,HSM.out⟩
    clear hr HS3 HF3
    go_wp2_with fail
    go_ret
    exact HFIN.out
   ·have hr:∃s3 c2,constrainF k f { s1 with e:=e2 } lit=some (s3,c2)∧((0≤c2∧s2=s3∧r=c2)∨(c2<0∧bR f k s3=some (s2,r))):=by
     rcases HK.out with h0|h0
     ·omega
     ·exact h0.2
    obtain ⟨s3,c2,hcon,hcs⟩:=hr
    have HCON:=Lib.hid hcon
    have HCS:=Lib.hid hcs
    have HCC:=Lib.hid (mM HS3.out (by rw [HSM.out.2.2.2.1];exact HD.out.fr HF3.out) HC.out HSB3.out.n (lit:=lit) (by have:=HX.out.2.2;constructor<;>omega) hcon)
    clear hcon hcs
    go_wp2_with fail
    refine HCC.out.mono ?_
    rintro en W4 ⟨rfl,κ4,V4,U4,hs4,hf4,hsm4⟩
    have HSB4:=Lib.hid (HSB3.out.con HS3.out hs4 HCON.out)
    have HS4:=Lib.hid hs4
    have HF4:Hid (Fr κ κ4 w W4 wO):=Lib.hid (HF3.out.trans (hf4.mono fun c hc=>conC_sol hc))
    have HSM4:=Lib.hid (HSM.out.trans hsm4)
    clear hs4 hf4 hsm4 HCC HS3 HF3 HSM HSB3 HCON q9
    by_cases hc2:0≤c2
    ·have hr:s2=s3∧r=c2:=by
      rcases HCS.out with h0|h0
      ·exact h0.2
      ·omega
     have HFIN:Hid (wP κ w g U wO (.int .i64 r) s2 (.returned (.int .i64 c2)) W4):=Lib.hid ⟨by rw [hr.2],κ4,V4,U4,by rw [hr.1];exact HS4.out,HF4.out,HSM4.out⟩
     clear hr HS4 HF4 HSM4
     go_wp2_with fail
     go_ret
     exact HFIN.out
    ·have hr:bR f k s3=some (s2,r):=by
      rcases HCS.out with h0|h0
      ·omega
      ·exact h0.2
     have HN:Hid (ObS κ w g U f s2 r k κ4 W4 s3 V4 U4):=Lib.hid ⟨HS4.out,HF4.out,HSM4.out,HSB4.out,hr⟩
     clear hr HS4 HF4 HSM4 HSB4 HCS
     go_wp2_with fail
     go_roundg k
     case measure=>omega
     case rel=>exact ⟨κ4,s3,V4,U4,HN⟩
end
end Go.Proofs.Yticieifacalocaa
