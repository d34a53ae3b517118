/- SolSeaP SolSea -/
import Derived.Test.YticieifacalocaaTSH48
import Derived.Test.YticieifacalocaaTSH47
namespace Go.Proofs.Yticieifacalocaa
structure Bnd (s s2:Sol):Prop where
 a:s2.arcs.length=s.arcs.length
 c:s.e.cls.length≤LIM→s2.e.cls.length≤LIM
 y:(∀x∈s.acty,I64 x)→∀x∈s2.acty,I64 x
theorem Bnd.refl (s:Sol):Bnd s s:=⟨rfl,id,id⟩
theorem Bnd.trans {s s2 s3:Sol} (h:Bnd s s2) (k:Bnd s2 s3):Bnd s s3:=⟨k.a.trans h.a,fun l=>k.c (h.c l),fun l=>k.y (h.y l)⟩
theorem w64_I64 (x:Int):I64 (w64 x):=by unfold w64 I64;omega
theorem aX {lvl:List Int} {cur:Nat}:∀(cl:List Int) (q:Lrn),(∀x∈q.acty,I64 x)→∀x∈(wE lvl cur q cl).acty,I64 x:=by
 intro cl
 induction cl with
 | nil=>intro q h;exact h
 | cons z r ih =>
  intro q h
  refine ih _ ?_
  cases hs:q.seen.getD (vr z) false with
  | true=>rw [dU hs];exact h
  | false =>
   have h2:∀x∈q.acty.set (vr z) (w64 (q.acty.getD (vr z) 0+1)),I64 x:=fun x hx=>by
    rcases xB hx with hx|rfl
    ·exact h x hx
    ·exact w64_I64 _
   rw [bH hs]
   split
   ·exact h2
   ·split<;>exact h2
theorem scanF_acty {e:Eng}:∀(k:Nat) (p:Lrn) (ch:List (Nat × Int)) (r:Nat × Lrn × List (Nat × Int)),dK e k p ch=some r→(∀x∈p.acty,I64 x)→∀x∈r.2.1.acty,I64 x:=by
 intro k
 induction k with
 | zero=>intro p ch r h;cases h
 | succ k ih =>
  intro p ch r h hp
  obtain ⟨j,hj, -,⟨-,h2⟩|⟨-,⟨-,h2⟩|⟨-,q, -, -, -, -, -, -, -,h2⟩⟩⟩:=dR h
  ·injection hj with hj;subst hj;exact ih _ _ _ h2 hp
  ·rw [h2];exact hp
  ·injection hj with hj;subst hj;exact ih _ _ _ h2 (aX _ _ hp)
theorem rP {s s2:Sol} {cl:List Int} {o:Org} (h:s.addF cl o=some s2):Bnd s s2:=by
 unfold Sol.addF at h
 split at h
 ·rename_i hc
  injection h with h;rw [←h]
  exact ⟨rfl,fun _=>by simp only [zJ,qQ];omega,id⟩
 ·cases h
theorem oR {n v:Nat} (ih:∀(s:Sol) (v:Nat) (s2:Sol) (c:Nat),dA n s v=some (s2,c)→Bnd s s2):∀(l:List Int) (p q:Sol × List Int × List (Nat × Int)),l.foldlM (uniStep n v) p=some q→Bnd p.1 q.1:=by
 intro l
 induction l with
 | nil=>intro p q h;injection h with h;rw [h];exact .refl _
 | cons x r ihl =>
  intro p q h
  rw [qW] at h
  cases hs:uniStep n v p x with
  | none=>rw [hs] at h;cases h
  | some p2 =>
   rw [hs] at h
   refine Bnd.trans ?_ (ihl p2 q h)
   unfold uniStep at hs
   split at hs
   ·split at hs
    ·injection hs with hs;rw [←hs];exact .refl _
    ·cases hu:dA n p.1 (vr x) with
     | none=>rw [hu] at hs;cases hs
     | some q2=>rw [hu] at hs;injection hs with hs;rw [←hs];exact ih _ _ _ _ hu
   ·cases hs
theorem unitF_bnd:∀(n:Nat) (s:Sol) (v:Nat) (s2:Sol) (c:Nat),dA n s v=some (s2,c)→Bnd s s2:=by
 intro n
 induction n with
 | zero=>intro s v s2 c h;cases h
 | succ n ih =>
  intro s v s2 c h
  obtain ⟨-, -,h1|⟨-,r, -, -, -,h1|⟨-,s1,own,ch,s3,hf,ha,rfl, -⟩⟩⟩:=bS h
  ·rw [h1.2.1];exact .refl _
  ·rw [h1.2.1];exact ⟨rfl,id,id⟩
  ·exact ((oR ih _ _ _ hf).trans (rP ha)).trans ⟨rfl,id,id⟩
theorem oZ {n:Nat}:∀(l:List Int) (p q:Sol × List (Nat × Int)),l.foldlM (unsStep n) p=some q→Bnd p.1 q.1:=by
 intro l
 induction l with
 | nil=>intro p q h;injection h with h;rw [h];exact .refl _
 | cons x r ihl =>
  intro p q h
  rw [qW] at h
  cases hs:unsStep n p x with
  | none=>rw [hs] at h;cases h
  | some p2 =>
   rw [hs] at h
   refine Bnd.trans ?_ (ihl p2 q h)
   unfold unsStep at hs
   split at hs
   ·cases hu:dA n p.1 (vr x) with
    | none=>rw [hu] at hs;cases hs
    | some q2=>rw [hu] at hs;injection hs with hs;rw [←hs];exact unitF_bnd _ _ _ _ _ hu
   ·cases hs
theorem undoF_bnd (f:Form) (s:Sol) (lit:Int):Bnd s (undoF f s lit):=by
 refine ⟨?_,id,id⟩
 unfold undoF
 simp only
 split
 ·split
  ·simp
  ·rfl
 ·rfl
theorem undo_bnd (f:Form):∀(l:List Int) (s s1:Sol),l.foldlM (fun s lit=>if undoOk f s lit=true then some (undoF f s lit) else none) s=some s1→Bnd s s1:=by
 intro l
 induction l with
 | nil=>intro s s1 h;injection h with h;rw [h];exact .refl _
 | cons x r ih =>
  intro s s1 h
  rw [qW] at h
  by_cases hc:undoOk f s x=true
  ·rw [if_pos hc] at h
   exact (undoF_bnd f s x).trans (ih _ _ h)
  ·rw [if_neg hc] at h;cases h
theorem fG {f:Form} {s s3:Sol} {level:Nat} (h:backF f s level=some s3):Bnd s s3:=by
 unfold backF at h
 split at h
 ·injection h with h;rw [h];exact .refl _
 ·simp only at h
  split at h
  ·cases hf:((s.e.tr.drop (s.e.st.getD level 0)).reverse.foldlM (fun s lit=>if undoOk f s lit=true then some (undoF f s lit) else none) s) with
   | none=>rw [hf] at h;cases h
   | some s1 =>
    rw [hf] at h
    injection h with h
    have h2:=undo_bnd f _ _ _ hf
    rw [←h]
    exact h2.trans ⟨rfl,id,id⟩
  ·cases h
theorem nV {f:Form} {s s4:Sol} {clause:List Int} {o:Org} (h:installF f s clause o=some s4):Bnd s s4:=by
 obtain ⟨-, -, -,cl,lv, -, -,hc, -,s2,s3,h2,hb, -,rfl⟩:=cZ h
 have h3:Bnd s s2:=by
  rcases h2 with ⟨-, -, -, -,rfl⟩|⟨-,rfl⟩
  ·exact ⟨rfl,fun _=>by show (s.e.cls++[cl]).length≤LIM;simp;omega,id⟩
  ·exact ⟨rfl,fun _=>by show (s.e.cls++[cl]).length≤LIM;simp;omega,id⟩
 exact (h3.trans (fG hb)).trans ⟨rfl,id,id⟩
theorem lO {n:Nat} {f:Form} {s s2:Sol} {conf:Nat} (h:learnF n f s conf=some s2):Bnd s s2:=by
 obtain ⟨-, -, -,k,p,ch,s1,ch2,hs,hu,hi⟩:=eU h
 have h1:Bnd s { s with acty:=p.acty }:=⟨rfl,id,fun ha=>scanF_acty _ _ _ _ hs (aX _ _ ha)⟩
 exact (h1.trans (oZ _ _ _ hu)).trans (nV hi)
theorem aB {fuel:Nat} {f:Form} {s s2:Sol} {lit r:Int} (h:constrainF fuel f s lit=some (s2,r)):Bnd s s2:=by
 rcases dM h with ⟨-,rfl, -⟩|⟨x,y,c,o, -, -, -, -, -, -, -, -, -, -, -,⟨num, -,rfl, -⟩|⟨l, -, -,ha, -⟩⟩
 ·exact .refl _
 ·exact ⟨by unfold putF;simp,id,id⟩
 ·exact rP ha
theorem nD {f:Form}:∀(n:Nat) (s s2:Sol) (r:Int),bR f n s=some (s2,r)→Bnd s s2:=by
 intro n
 induction n with
 | zero=>intro s s2 r h;cases h
 | succ n ih =>
  intro s s2 r h
  rcases lG h with ⟨-,rfl, -⟩|⟨lit,e2,c, -, -,hf,h2⟩
  ·exact .refl _
  ·have h3:Bnd s { s with e:=e2 }:=⟨rfl,fun hl=>by show e2.cls.length≤LIM;rw [(fC _ _ _ hf).1];exact hl,id⟩
   rcases h2 with ⟨-,rfl, -⟩|⟨-,s3,c2,hc,⟨-,rfl, -⟩|⟨-,h4⟩⟩
   ·exact h3
   ·exact h3.trans (aB hc)
   ·exact (h3.trans (aB hc)).trans (ih _ _ _ h4)
theorem fY {f:Form} {s s2:Sol} (h:decideF f s=some (some s2)):Bnd s s2:=by
 unfold decideF at h
 simp only at h
 split at h
 ·cases h
 ·split at h
  ·split at h
   ·injection h with h;injection h with h;rw [←h];exact ⟨rfl,id,id⟩
   ·split at h
    ·injection h with h;injection h with h;rw [←h];exact ⟨rfl,id,id⟩
    ·cases h
  ·cases h
theorem Bnd.sb {κ κ':Kap} {w w':World} {g:Nat} {s s2:Sol} {V V':EV} {U U':SV} (h:Bnd s s2) (hs:SB s) (hm:SolM κ w g s V U) (hm2:SolM κ' w' g s2 V' U'):SB s2 :=
 ⟨h.c hs.c,by rw [←hm2.aln,h.a,hm.aln];exact hs.n⟩
theorem mE {f:Form} {k:Nat} {conf r:Int} {s s2:Sol} (h:wW f k conf s=some (s2,r)):∃n,k=n+1∧∃s1 c,bR f n s=some (s1,c) ∧
  ((c<0∧decideF f s1=some none∧s2=s1∧r = -1)∨(c<0∧∃s3,decideF f s1=some (some s3)∧wW f n conf s3=some (s2,r))∨(0≤c∧s1.e.st.length=0∧s2=s1∧r=c) ∨
   (0≤c∧s1.e.st.length≠0∧∃s3,learnF n f s1 c.toNat=some s3∧0≤conf∧conf<LIM∧0≤s3.rst∧s3.rst<LIM∧∃s4,(((conf+1) % 256=0∧s4={ s3 with acty:=s3.acty.map fun x=>x.tdiv 2 })∨((conf+1) % 256≠0∧s4=s3)) ∧
    ((s4.rst≤conf+1∧∃s5,backF f { s4 with rst:=s4.rst+(conf+1) / 2 } 0=some s5∧wW f n (conf+1) s5=some (s2,r))∨(¬s4.rst≤conf+1∧wW f n (conf+1) s4=some (s2,r))))):=by
 cases k with
 | zero=>cases h
 | succ n =>
  refine ⟨n,rfl,?_⟩
  rw [wW] at h
  cases hp:bR f n s with
  | none=>rw [hp] at h;cases h
  | some q =>
   obtain ⟨s1,c⟩:=q
   rw [hp] at h
   simp only at h
   refine ⟨s1,c,rfl,?_⟩
   by_cases hc:c<0
   ·rw [if_pos hc] at h
    cases hd:decideF f s1 with
    | none=>rw [hd] at h;cases h
    | some o =>
     rw [hd] at h
     cases o with
     | none=>simp only at h;injection h with h;injection h with h1 h2;exact .inl ⟨hc,rfl,h1.symm,h2.symm⟩
     | some s3=>exact .inr (.inl ⟨hc,s3,rfl,h⟩)
   ·rw [if_neg hc] at h
    by_cases h0:s1.e.st.length=0
    ·rw [if_pos h0] at h
     injection h with h;injection h with h1 h2
     exact .inr (.inr (.inl ⟨by omega,h0,h1.symm,h2.symm⟩))
    ·rw [if_neg h0] at h
     cases hl:learnF n f s1 c.toNat with
     | none=>rw [hl] at h;cases h
     | some s3 =>
      rw [hl] at h
      simp only at h
      split at h
      ·rename_i hb
       generalize hs4:(if (conf+1) % 256=0 then ({ s3 with acty:=s3.acty.map fun x=>x.tdiv 2 }:Sol) else s3)=s4 at h
       refine .inr (.inr (.inr ⟨by omega,h0,s3,rfl,hb.1,hb.2.1,hb.2.2.1,hb.2.2.2,s4,?_,?_⟩))
       ·rw [←hs4]
        by_cases hm:(conf+1) % 256=0
        ·rw [if_pos hm];exact .inl ⟨hm,rfl⟩
        ·rw [if_neg hm];exact .inr ⟨hm,rfl⟩
       ·split at h
        ·rename_i hr
         refine .inl ⟨hr,?_⟩
         split at h
         ·cases h
         ·rename_i s5 hb5
          exact ⟨s5,hb5,h⟩
        ·rename_i hr
         exact .inr ⟨hr,h⟩
      ·cases h
theorem half_step {l:List Int} {k:Nat} (F:Int→Int) (h:k<l.length):(((l.take k).map F++l.drop k).set k (F (l.getD k 0)))=(l.take (k+1)).map F++l.drop (k+1):=by
 have h1:l.getD k 0=l[k]:=by rw [List.getD_eq_getElem?_getD,List.getElem?_eq_getElem h];rfl
 have h2:((l.take k).map F).length=k:=by rw [List.length_map,qO];omega
 rw [h1,zT h,kL _ _ (by omega),h2,xX,zE,xV h,List.map_append,qB]
 rfl
theorem half_at {l:List Int} {k:Nat} (F:Int→Int) (h:k<l.length):((l.take k).map F++l.drop k).getD k 0=l.getD k 0:=by
 have h2:((l.take k).map F).length=k:=by rw [List.length_map,qO];omega
 rw [List.getD_eq_getElem?_getD,zL (by omega),h2,xX,yW,kX,List.getD_eq_getElem?_getD]
open Go.RowKit
section
variable {κ:Kap} {w:World} {g:Nat} {s:Sol} {V:EV} {U:SV}
theorem oK {x:Int} (h:I64 x):I64 (x.tdiv 2):=by
 unfold I64 at *
 rcases Int.le_total 0 x with h0|h0
 ·rw [kR h0];omega
 ·have:x.tdiv 2 = -((-x) / 2):=by rw [←kR (by omega:0 ≤ -x),Int.neg_tdiv,yJ]
  rw [this];omega
theorem decC_sol {c:Col} (h:mG c):wO c:=by cases c<;>first|trivial|exact h
structure SeS (κ:Kap) (w:World) (g:Nat) (U:SV) (f:Form) (s2:Sol) (r:Int) (k:Nat) (conf:Int) (κ1:Kap) (wr:World) (s1:Sol) (V1:EV) (U1:SV):Prop where
 m:SolM κ1 wr g s1 V1 U1
 fr:Fr κ κ1 w wr wO
 sm:U.same U1
 b:SB s1
 y:∀x∈s1.acty,I64 x
 q:wW f k conf s1=some (s2,r)
set_option maxRecDepth 100000 in
set_option maxHeartbeats 16000000 in
theorem sM {f:Form} {n:Nat} {s2:Sol} {r:Int} (h:SolM κ w g s V U) (hob:U.ob=obsV g) (hd:DU κ w U.av f.atoms) (hC:∀d∈f.atoms, -9223372036854775807≤d.c) (hB:SB s) (hy:∀x∈s.acty,I64 x) (hq:wW f n 0 s=some (s2,r)) :
  Calls Try.prog 38 #[.pointer (some ⟨g,0,none⟩), .func (.func 39) #[.pointer (some ⟨g,0,none⟩)] #[]] w (wP κ w g U wO (.int .i64 r) s2):=by
 have HS0:Hid (SeS κ w g U f s2 r n 0 κ w s V U):=Lib.hid ⟨h,Fr.refl _ _ _, .refl U,hB,hy,hq⟩
 have HD:=Lib.hid hd
 have HC:=Lib.hid hC
 have HOB:=Lib.hid hob
 have hBB:=h.eng.B
 clear h hd hC hB hq hob hy
 go_enter Try.func38,Try.ntmps38
 go_wp2_with fail
 go_loopg [5] n (fun k v5 wr=>∃(conf:Int) (κ1:Kap) (s1:Sol) (V1:EV) (U1:SV),v5 = .int .i64 conf∧Hid (SeS κ w g U f s2 r k conf κ1 wr s1 V1 U1))
 case atStart=>exact ⟨0,κ,s,V,U,rfl,HS0⟩
 case round =>
  clear HS0
  obtain ⟨conf,κ1,s1,V1,U1,rfl,HS⟩:=hrel
  obtain ⟨n1,hk,s3,c,hp,hcase⟩:=mE HS.out.q
  subst hk
  have HPR:=Lib.hid (sprop_any HS.out.m (by rw [HS.out.sm.1];exact HOB.out) (by rw [HS.out.sm.2.2.2.1];exact HD.out.fr HS.out.fr) HC.out HS.out.b hp)
  have HP:=Lib.hid hp
  have HCA:=Lib.hid hcase
  clear hp hcase
  go_wp2_with fail
  refine HPR.out.mono ?_
  rintro en W ⟨rfl,κ3,V3,U3,hm3,hf3,hsm3⟩
  have HM3:=Lib.hid hm3
  have HF3:Hid (Fr κ κ3 w W wO):=Lib.hid (HS.out.fr.trans hf3)
  have HSM3:=Lib.hid (HS.out.sm.trans hsm3)
  have HB3:=Lib.hid ((nD _ _ _ _ HP.out).sb HS.out.b HS.out.m hm3)
  have HY3:=Lib.hid ((nD _ _ _ _ HP.out).y HS.out.y)
  clear hm3 hf3 hsm3 HPR HP HS
  by_cases hc:c<0
  ·have yc:decide (c<0)=true:=by simpa using hc
   have hcase:(decideF f s3=some none∧s2=s3∧r = -1)∨∃s4,decideF f s3=some (some s4)∧wW f n1 conf s4=some (s2,r):=by
    rcases HCA.out with h|h|h|h
    ·exact .inl h.2
    ·exact .inr h.2
    ·omega
    ·omega
   rcases hcase with ⟨hde,rfl,rfl⟩|⟨s4,hde,hse⟩
   ·have HDE:=Lib.hid (mA HM3.out (by rw [HSM3.out.2.2.2.1];exact HD.out.fr HF3.out) hde)
    clear hde HCA hc
    go_wp2_with fail
    refine HDE.out.mono ?_
    rintro en W4 ⟨rfl,nd,rfl⟩
    have HFIN:Hid (wP κ w g U wO (.int .i64 (-1)) s2 (.returned (.int .i64 (-1))) (W.drewN nd)):=Lib.hid ⟨rfl,κ3,V3,U3,HM3.out.drewN nd,HF3.out.trans (Fr.drewN _ _ _ _),HSM3.out⟩
    clear HDE HM3 HF3 HSM3 HB3
    go_wp2_with fail
    go_ret
    exact HFIN.out
   ·have HDE:=Lib.hid (mA HM3.out (by rw [HSM3.out.2.2.2.1];exact HD.out.fr HF3.out) hde)
    have HSE:=Lib.hid (And.intro hde hse)
    clear hde hse HCA hc
    go_wp2_with fail
    refine HDE.out.mono ?_
    rintro en W4 ⟨rfl,κ4,V4,U4,hm4,hf4,hsm4⟩
    have HN:Hid (SeS κ w g U f s2 r n1 conf κ4 W4 s4 V4 U4):=Lib.hid ⟨hm4,HF3.out.trans (hf4.mono fun c hc=>decC_sol hc),HSM3.out.trans hsm4,(fY HSE.out.1).sb HB3.out HM3.out hm4,(fY HSE.out.1).y HY3.out,HSE.out.2⟩
    clear hm4 hf4 hsm4 HDE HM3 HF3 HSM3 HB3 HSE
    go_wp2_with fail
    go_roundg n1
    case measure=>omega
    case rel=>exact ⟨conf,κ4,s4,V4,U4,rfl,HN⟩
  ·have yc:decide (c<0)=false:=by simpa using hc
   obtain ⟨Bs,ds,hvs,hds,hdm⟩:=HM3.out.eng.st.shape
   have q7:=HM3.out.eng.cellE (i:=7) rfl
   rw [hvs] at q7
   unfold maxLen at hdm
   clear hvs
   by_cases hst:s3.e.st.length=0
   ·have hcase:s2=s3∧r=c:=by
     rcases HCA.out with h|h|h|h
     ·omega
     ·omega
     ·exact h.2.2
     ·exact absurd hst h.2.1
    have yst:decide ((s3.e.st.length:Int)=0)=true:=by simpa using hst
    have HFIN:Hid (wP κ w g U wO (.int .i64 r) s2 (.returned (.int .i64 c)) W):=Lib.hid ⟨by rw [hcase.2],κ3,V3,U3,by rw [hcase.1];exact HM3.out,HF3.out,HSM3.out⟩
    clear hcase HCA HM3 HF3 HSM3 HB3
    go_wp2_with fail
    go_ret
    exact HFIN.out
   ·obtain ⟨s4,hln,hb1,hb2,hb3,hb4,s5,hs5,hcs⟩:∃s4,learnF n1 f s3 c.toNat=some s4∧0≤conf∧conf<LIM∧0≤s4.rst∧s4.rst<LIM∧∃s5,(((conf+1) % 256=0∧s5={ s4 with acty:=s4.acty.map fun x=>x.tdiv 2 })∨((conf+1) % 256≠0∧s5=s4)) ∧
      ((s5.rst≤conf+1∧∃s6,backF f { s5 with rst:=s5.rst+(conf+1) / 2 } 0=some s6∧wW f n1 (conf+1) s6=some (s2,r))∨(conf+1<s5.rst∧wW f n1 (conf+1) s5=some (s2,r))):=by
     rcases HCA.out with h|h|h|h
     ·omega
     ·omega
     ·exact absurd h.2.1 hst
     ·exact h.2.2
    have yst:decide ((s3.e.st.length:Int)=0)=false:=by simpa using hst
    have HLR:Hid (Calls Try.prog 60 #[.pointer (some ⟨g,0,none⟩), .int .i64 c] W (wP κ3 W g U3 wO (.tuple #[]) s4)):=by
     have:=learn_any (conf:=c.toNat) HM3.out (by rw [HSM3.out.2.2.2.1];exact HD.out.fr HF3.out) HC.out hln
     rw [kA (by omega)] at this
     exact Lib.hid this
    have HLN:=Lib.hid hln
    have HS5:=Lib.hid hs5
    have HCS:=Lib.hid hcs
    have HRS:=Lib.hid (And.intro hb3 hb4)
    replace hb2:conf<1099511627776:=by unfold LIM at hb2;omega
    clear hln hs5 hcs hb3 hb4 HCA
    go_wp2_with fail
    refine HLR.out.mono ?_
    rintro en W4 ⟨rfl,κ4,V4,U4,hm4,hf4,hsm4⟩
    have HM4:=Lib.hid hm4
    have HF4:Hid (Fr κ κ4 w W4 wO):=Lib.hid (HF3.out.trans hf4)
    have HSM4:=Lib.hid (HSM3.out.trans hsm4)
    have HB4:=Lib.hid ((lO HLN.out).sb HB3.out HM3.out hm4)
    have HY4:=Lib.hid ((lO HLN.out).y HY3.out)
    clear hm4 hf4 hsm4 HLR HLN HM3 HF3 HSM3 HB3 HY3 q7
    obtain ⟨cn,rfl⟩:∃cn:Nat,conf=cn:=⟨conf.toNat,by omega⟩
    have HQ:Hid (∀(κx:Kap) (wx:World) (s6:Sol) (V6:EV) (U6:SV),SolM κx wx g s6 V6 U6→Fr κ κx w wx wO→U.same U6→SB s6→(∀x∈s6.acty,I64 x)→wW f n1 ((cn:Int)+1) s6=some (s2,r)→Hid (SeS κ w g U f s2 r n1 ((cn:Int)+1) κx wx s6 V6 U6)):=Lib.hid fun _ _ _ _ _ a b c d e i=>Lib.hid ⟨a,b,c,d,e,i⟩
    have t1:((cn:Int)+1).tmod 256=((cn:Int)+1) % 256:=qK (by omega)
    have t2:((cn:Int)+1).tdiv 2=((cn:Int)+1) / 2:=kR (by omega)
    have hh1:0≤((cn:Int)+1) / 2:=by omega
    have hh2:((cn:Int)+1) / 2≤(cn:Int)+1:=by omega
    generalize ((cn:Int)+1) % 256=m at *
    generalize ((cn:Int)+1) / 2=hf at *
    replace hb1:0≤(cn:Int):=by omega
    rcases HS5.out with ⟨h256,hs5⟩|⟨h256,hs5⟩
    ·have y256:decide (m=0)=true:=by simpa using h256
     have y256b:(m == 0)=true:=by simpa using h256
     have HS5':=Lib.hid hs5
     have q19:=HM4.out.eng.cellR (i:=10) rfl
     simp only [Nat.reduceAdd] at q19
     have hB4:=HM4.out.eng.B
     have HAL:=Lib.hid HM4.out.actyl
     generalize hBn:s4.e.val.length=Bn at *
     have HBN:=Lib.hid hBn
     clear hs5 HS5 h256 hBn
     go_upto_region 10 with fail
     go_step
     go_step
     go_step
     go_step
     go_step
     go_step
     go_step
     go_step
     go_step
     clear t1
     go_upto_region 12 with fail
     clear q19 y256 y256b
     go_loopw [43] (fun i wr=>∃k:Nat,k≤Bn∧i = .int .i64 (k:Int)∧Hid (SolM κ4 wr g { s4 with acty:=(s4.acty.take k).map (fun x=>x.tdiv 2)++s4.acty.drop k } V4 U4∧Fr κ κ4 w wr wO)) (fun i _=>Bn-(intOf i).toNat)
     case atStart=>exact ⟨0,zQ _,rfl,Lib.hid ⟨by simpa using HM4.out,HF4.out⟩⟩
     case round =>
      clear HM4 HF4
      obtain ⟨k,hk,rfl,HS9⟩:=hrel
      by_cases hlt:k<Bn
      ·have q19:wr.cell? ⟨g,19,none⟩=some (.slice (some ⟨U4.gy,0,none⟩) Bn Bn):=by rw [←HBN.out];exact HS9.out.1.eng.cellR (i:=10) rfl
       have hka:k<s4.acty.length:=by have:=HAL.out;omega
       have qa:=HS9.out.1.acty.cell k
       rw [zA,wU (getD_at (by have:=HS9.out.1.actyl;simp only at this ⊢;rw [this,HBN.out];exact hlt)),half_at _ hka] at qa
       have za:=HS9.out.1.acty.frozen k
       have hx:I64 (s4.acty.getD k 0):=HY4.out _ (getD_mem hka)
       have HN9:Hid (SolM κ4 (wr.setCell ⟨U4.gy,k,none⟩ (.int .i64 ((s4.acty.getD k 0).tdiv 2))) g { s4 with acty:=(s4.acty.take (k+1)).map (fun x=>x.tdiv 2)++s4.acty.drop (k+1) } V4 U4∧Fr κ κ4 w (wr.setCell ⟨U4.gy,k,none⟩ (.int .i64 ((s4.acty.getD k 0).tdiv 2))) wO):=by
        refine Lib.hid ⟨?_,HS9.out.2.trans ((frs κ4 wr HS9.out.1.acty.k).mono fun c hc=>by subst hc;trivial)⟩
        have:=HS9.out.1.setActy k ((s4.acty.getD k 0).tdiv 2)
        simp only at this
        rw [half_step (fun x=>x.tdiv 2) hka] at this
        exact this
       have hx2:=oK hx
       generalize s4.acty.getD k 0=x at *
       generalize hy2:x.tdiv 2=y at *
       unfold I64 at hx2
       have yw:wrap64 y=y:=by unfold wrap64;omega
       have yk:(k:Int)<(Bn:Int):=by omega
       clear HS9 hka hx hx2
       go_wp2_with fail
       go_roundw
       case rel=>exact ⟨k+1,by omega,by go_num,HN9⟩
       case measure=>simp [intOf];omega
      ·obtain rfl:k=Bn:=by omega
       have yk:¬((k:Int)<(k:Int)):=by omega
       have HM5:Hid (SolM κ4 wr g s5 V4 U4):=by
        have:=HS9.out.1
        rw [zU (by have:=HAL.out;omega),qY (by have:=HAL.out;omega),yV] at this
        rw [HS5'.out]
        exact Lib.hid this
       have HF5:=Lib.hid HS9.out.2
       have HB5:Hid (SB s5):=Lib.hid (by rw [HS5'.out];exact ⟨HB4.out.c,HB4.out.n⟩)
       have HY5:Hid (∀x∈s5.acty,I64 x):=Lib.hid (by
        rw [HS5'.out]
        intro x hx
        obtain ⟨y,hy,rfl⟩:=List.mem_map.1 hx
        exact oK (HY4.out y hy))
       have HR5:Hid (0≤s5.rst∧s5.rst<1099511627776):=Lib.hid (by rw [HS5'.out];have:=HRS.out;unfold LIM at this;exact ⟨this.1,by have:=this.2;omega⟩)
       clear HS9 hlt hk HS5' HB4 HY4 HRS HAL HBN
       go_upto_region 16 with fail
       have q20:=HM5.out.eng.cellR (i:=11) rfl
       simp only [Nat.reduceAdd] at q20
       obtain ⟨hr1,hr2⟩:=HR5.out
       rcases HCS.out with ⟨hle,s6,hbk,hse⟩|⟨hlt2,hse⟩
       ·have yr:decide ((cn:Int)+1≥s5.rst)=true:=by simpa using hle
        have yr2:s5.rst≤(cn:Int)+1:=hle
        have yw:wrap64 (s5.rst+hf)=s5.rst+hf:=by unfold wrap64;omega
        have HM6:=Lib.hid (HM5.out.setRst (s5.rst+hf))
        have z20:=HM5.out.eng.blk.frozen 20
        have HF6:Hid (Fr κ κ4 w (wr.setCell ⟨g,20,none⟩ (.int .i64 (s5.rst+hf))) wO):=Lib.hid (HF5.out.trans ((frs κ4 wr HM5.out.eng.blk.k).mono fun c hc=>by subst hc;trivial))
        have HBK:Hid (Calls Try.prog 61 #[.pointer (some ⟨g,0,none⟩), .int .i64 0] (wr.setCell ⟨g,20,none⟩ (.int .i64 (s5.rst+hf))) (wP κ4 (wr.setCell ⟨g,20,none⟩ (.int .i64 (s5.rst+hf))) g U4 bP (.tuple #[]) s6)) :=
         Lib.hid (eI (level:=0) HM6.out (by rw [HSM4.out.2.2.2.1];exact HD.out.fr HF6.out) HC.out hbk)
        have HSE:=Lib.hid (And.intro hbk hse)
        have HBB5:=Lib.hid HM5.out
        clear hle hbk hse HM5 HF5 hr1 hr2 HCS
        go_upto_region 18 with fail
        clear q20 z20 yr yr2 yw
        go_wp2_with fail
        refine HBK.out.mono ?_
        rintro en W7 ⟨rfl,κ7,V7,U7,m7,f7,sm7⟩
        have hb7:Bnd s5 s6:=(⟨rfl,id,id⟩:Bnd s5 { s5 with rst:=s5.rst+hf }).trans (fG HSE.out.1)
        have HN:=HQ.out κ7 W7 s6 V7 U7 m7 (HF6.out.trans (f7.mono fun c hc=>aL hc)) (HSM4.out.trans sm7) (hb7.sb HB5.out HBB5.out m7) (hb7.y HY5.out) HSE.out.2
        clear m7 f7 sm7 hb7 HBK HM6 HF6 HBB5 HSE HB5 HY5 HR5
        go_wp2_with fail
        go_roundg n1
        case measure=>omega
        case rel=>exact ⟨(cn:Int)+1,κ7,s6,V7,U7,by go_num,HN⟩
       ·have yr:decide ((cn:Int)+1≥s5.rst)=false:=by simp;omega
        have yr2:¬(s5.rst≤(cn:Int)+1):=by omega
        have HN:=HQ.out κ4 wr s5 V4 U4 HM5.out HF5.out HSM4.out HB5.out HY5.out hse
        clear hlt2 hse HM5 HF5 HCS hr1 hr2 HB5 HY5 HR5
        go_wp2_with fail
        go_roundg n1
        case measure=>omega
        case rel=>exact ⟨(cn:Int)+1,κ4,s5,V4,U4,by go_num,HN⟩
    ·have y256:decide (m=0)=false:=by simpa using h256
     have y256b:(m == 0)=false:=by simpa using h256
     have HM5:Hid (SolM κ4 W4 g s5 V4 U4):=Lib.hid (by rw [hs5];exact HM4.out)
     have HF5:=HF4
     have HB5:Hid (SB s5):=Lib.hid (by rw [hs5];exact HB4.out)
     have HY5:Hid (∀x∈s5.acty,I64 x):=Lib.hid (by rw [hs5];exact HY4.out)
     have HR5:Hid (0≤s5.rst∧s5.rst<1099511627776):=Lib.hid (by rw [hs5];have:=HRS.out;unfold LIM at this;exact ⟨this.1,by have:=this.2;omega⟩)
     clear hs5 h256 HM4 HF4 HB4 HY4 HRS HS5
     go_upto_region 10 with fail
     go_step
     go_step
     go_step
     go_step
     go_step
     go_step
     go_step
     go_step
     go_step
     clear t1
     go_upto_region 16 with fail
     clear y256 y256b
     have q20:=HM5.out.eng.cellR (i:=11) rfl
     simp only [Nat.reduceAdd] at q20
     obtain ⟨hr1,hr2⟩:=HR5.out
     rcases HCS.out with ⟨hle,s6,hbk,hse⟩|⟨hlt2,hse⟩
     ·have yr:decide ((cn:Int)+1≥s5.rst)=true:=by simpa using hle
      have yr2:s5.rst≤(cn:Int)+1:=hle
      have yw:wrap64 (s5.rst+hf)=s5.rst+hf:=by unfold wrap64;omega
      have HM6:=Lib.hid (HM5.out.setRst (s5.rst+hf))
      have z20:=HM5.out.eng.blk.frozen 20
      have HF6:Hid (Fr κ κ4 w (W4.setCell ⟨g,20,none⟩ (.int .i64 (s5.rst+hf))) wO):=Lib.hid (HF5.out.trans ((frs κ4 W4 HM5.out.eng.blk.k).mono fun c hc=>by subst hc;trivial))
      have HBK:Hid (Calls Try.prog 61 #[.pointer (some ⟨g,0,none⟩), .int .i64 0] (W4.setCell ⟨g,20,none⟩ (.int .i64 (s5.rst+hf))) (wP κ4 (W4.setCell ⟨g,20,none⟩ (.int .i64 (s5.rst+hf))) g U4 bP (.tuple #[]) s6)) :=
       Lib.hid (eI (level:=0) HM6.out (by rw [HSM4.out.2.2.2.1];exact HD.out.fr HF6.out) HC.out hbk)
      have HSE:=Lib.hid (And.intro hbk hse)
      have HBB5:=Lib.hid HM5.out
      clear hle hbk hse HM5 HF5 hr1 hr2 HCS
      go_upto_region 18 with fail
      clear q20 z20 yr yr2 yw
      go_wp2_with fail
      refine HBK.out.mono ?_
      rintro en W7 ⟨rfl,κ7,V7,U7,m7,f7,sm7⟩
      have hb7:Bnd s5 s6:=(⟨rfl,id,id⟩:Bnd s5 { s5 with rst:=s5.rst+hf }).trans (fG HSE.out.1)
      have HN:=HQ.out κ7 W7 s6 V7 U7 m7 (HF6.out.trans (f7.mono fun c hc=>aL hc)) (HSM4.out.trans sm7) (hb7.sb HB5.out HBB5.out m7) (hb7.y HY5.out) HSE.out.2
      clear m7 f7 sm7 hb7 HBK HM6 HF6 HBB5 HSE HB5 HY5 HR5
      go_wp2_with fail
      go_roundg n1
      case measure=>omega
      case rel=>exact ⟨(cn:Int)+1,κ7,s6,V7,U7,by go_num,HN⟩
     ·have yr:decide ((cn:Int)+1≥s5.rst)=false:=by simp;omega
      have yr2:¬(s5.rst≤(cn:Int)+1):=by omega
      have HN:=HQ.out κ4 W4 s5 V4 U4 HM5.out HF5.out HSM4.out HB5.out HY5.out hse
      clear hlt2 hse HM5 HF5 HCS hr1 hr2 HB5 HY5 HR5
      go_wp2_with fail
      go_roundg n1
      case measure=>omega
      case rel=>exact ⟨(cn:Int)+1,κ4,s5,V4,U4,by go_num,HN⟩
end
end Go.Proofs.Yticieifacalocaa
