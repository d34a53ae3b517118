/- SolUni -/
import Derived.Test.YticieifacalocaaTSH34
namespace Go.Proofs.Yticieifacalocaa
open Go.RowKit
def bJ:Col→Prop
 | .slv | .cls | .org | .unt=>True
 | _=>False
theorem pW {c:Col} (h:lM c):bJ c:=by cases c<;>first|trivial|exact h
def uniStep (n v:Nat) (p:Sol × List Int × List (Nat × Int)) (lit:Int):Option (Sol × List Int × List (Nat × Int)) :=
 if litB p.1.unt.length lit=true then
  if vr lit=v then some (p.1,p.2.1++[lit],p.2.2)
  else (dA n p.1 (vr lit)).map fun q=>(q.1,p.2.1,p.2.2++[(q.2, -lit)])
 else none
theorem bS {n:Nat} {s s2:Sol} {v c:Nat} (h:dA (n+1) s v=some (s2,c)):v<s.unt.length∧v<s.e.rsn.length∧((0≤s.unt.getD v 0∧s2=s∧(c:Int)=s.unt.getD v 0)∨(¬0≤s.unt.getD v 0∧∃r:Nat,s.e.rsn.getD v 0=r∧r<s.e.cls.length∧(s.e.cl r).length<LIM ∧
  (((s.e.cl r).length=1∧s2={ s with unt:=s.unt.set v r }∧c=r)∨((s.e.cl r).length≠1∧∃s1 own ch s3,(s.e.cl r).foldlM (uniStep n v) (s,[],[])=some (s1,own,ch)∧s1.addF own ⟨wF,r,ch⟩=some s3∧s2={ s3 with unt:=s3.unt.set v s1.e.cls.length }∧c=s1.e.cls.length)))):=by
 rw [dA] at h
 split at h
 ·rename_i hv
  refine ⟨hv.1,hv.2,?_⟩
  split at h
  ·rename_i h0
   injection h with h
   injection h with h1 h2
   exact .inl ⟨h0,h1.symm,by omega⟩
  ·rename_i h0
   simp only at h
   split at h
   ·rename_i hr
    right
    refine ⟨h0,(s.e.rsn.getD v 0).toNat,by omega,hr.2.1,hr.2.2,?_⟩
    split at h
    ·rename_i h1
     injection h with h
     injection h with e1 e2
     refine .inl ⟨h1,?_,by omega⟩
     rw [←e1,show ((s.e.rsn.getD v 0).toNat:Int)=s.e.rsn.getD v 0 by omega]
    ·rename_i h1
     right
     refine ⟨h1,?_⟩
     split at h
     ·cases h
     ·rename_i s1 own ch hf
      cases ha:s1.addF own ⟨wF,(s.e.rsn.getD v 0).toNat,ch⟩ with
      | none=>rw [ha] at h;cases h
      | some s3 =>
       rw [ha] at h
       injection h with h
       injection h with e1 e2
       exact ⟨s1,own,ch,s3,hf,ha,e1.symm,e2.symm⟩
   ·cases h
 ·cases h
theorem rR {n v:Nat} (ih:∀(s:Sol) (v:Nat) (s2:Sol) (c:Nat),dA n s v=some (s2,c)→s2.e.val=s.e.val):∀(l:List Int) (p q:Sol × List Int × List (Nat × Int)),l.foldlM (uniStep n v) p=some q→q.1.e.val=p.1.e.val:=by
 intro l
 induction l with
 | nil=>intro p q h;injection h with h;rw [h]
 | cons x r ihl =>
  intro p q h
  rw [qW] at h
  cases hs:uniStep n v p x with
  | none=>rw [hs] at h;cases h
  | some p2 =>
   rw [hs] at h
   have h2:=ihl p2 q h
   rw [h2]
   unfold uniStep at hs
   split at hs
   ·split at hs
    ·injection hs with hs;rw [←hs]
    ·cases hu:dA n p.1 (vr x) with
     | none=>rw [hu] at hs;cases hs
     | some q2=>rw [hu] at hs;injection hs with hs;rw [←hs];exact ih _ _ _ _ hu
   ·cases hs
theorem addF_val {s s2:Sol} {cl:List Int} {o:Org} (h:s.addF cl o=some s2):s2.e.val=s.e.val:=by
 unfold Sol.addF at h
 split at h
 ·injection h with h;rw [←h]
 ·cases h
theorem unitF_val:∀(n:Nat) (s:Sol) (v:Nat) (s2:Sol) (c:Nat),dA n s v=some (s2,c)→s2.e.val=s.e.val:=by
 intro n
 induction n with
 | zero=>intro s v s2 c h;cases h
 | succ n ih =>
  intro s v s2 c h
  obtain ⟨-, -,h1|⟨-,r, -, -, -,h1|⟨-,s1,own,ch,s3,hf,ha,rfl, -⟩⟩⟩:=bS h
  ·rw [h1.2.1]
  ·rw [h1.2.1]
  ·exact (addF_val ha).trans (rR ih _ _ _ hf)
theorem Hold.repaint {κ:Kap} {w:World} {i:Nat} {e:TypeId} {sz n:Nat} {v:Value} {xs:List Value} (h:Hold κ w (.tmp i) e sz v n xs) (c:Col):∃κ':Kap,Hold κ' w c e sz v n xs∧(∀j,κ j≠some (.tmp i)→κ' j=κ j)∧∀j,v.ownBlock≠some j→κ' j=κ j:=by
 cases hv:v.ownBlock with
 | none=>exact ⟨κ,⟨h.o,fun k hk=>by rw [hv] at hk;cases hk⟩,fun _ _=>rfl,fun _ _=>rfl⟩
 | some j =>
  refine ⟨kset κ j c,⟨h.o,fun k hk => ?_⟩,fun k hk => ?_,fun k hk => ?_⟩
  ·rw [hv] at hk;injection hk with hk;subst hk;unfold kset;rw [if_pos rfl]
  ·unfold kset
   split
   ·rename_i e;subst e;exact absurd (h.k k hv) hk
   ·rfl
  ·unfold kset
   split
   ·rename_i e;subst e;exact absurd rfl hk
   ·rfl
theorem SolM.untAt {κ:Kap} {w:World} {g:Nat} {s:Sol} {V:EV} {U:SV} (h:SolM κ w g s V U) {v:Nat} (hv:v<s.e.val.length):w.cell? ⟨U.gu,v,none⟩=some (.int .i64 (s.unt.getD v 0)):=by
 rw [h.unt.cell,zA];exact wU (getD_at (by rw [h.untl];exact hv))
theorem lks_app (l m:List (Nat × Int)):aC (l++m)=aC l++aC m:=by simp [aC]
structure UnS (κ:Kap) (w:World) (g:Nat) (U:SV) (go rr:Nat) (Ac:Option Addr) (L ccl:Nat) (cl:List Int) (k:Nat) (κ1:Kap) (wr:World) (s1:Sol) (V1:EV) (U1:SV) (own:List Int) (ov:Value) (ch:List (Nat × Int)) (cv:Value):Prop where
 m:SolM κ1 wr g s1 V1 U1
 f:Fr κ κ1 w wr bJ
 sm:U.same U1
 o:HB κ1 wr (.tmp 0) go 94 #[.int .i64 0, .int .i64 0, .slice none 0 0, .int .i64 0, .int .i64 0, .int .i64 0, .int .i64 (rr:Int),cv]
 ow:Hold κ1 wr (.tmp 1) 3 1 ov own.length (ci own)
 hc:Hold κ1 wr (.tmp 2) 115 2 cv ch.length (aC ch)
 cl:Hold κ1 wr (.cl rr) 3 1 (.slice Ac L ccl) L (ci cl)
 n0:w.heap.size≤go
 n1:∀j,ov.ownBlock=some j→w.heap.size≤j
 n2:∀j,cv.ownBlock=some j→w.heap.size≤j
 l1:own.length≤k
 l2:ch.length≤k
section
variable {κ κ1 κ2:Kap} {w wr w2:World} {g:Nat} {s s1 s2:Sol} {V V1 V2:EV} {U U1 U2:SV} {go rr L ccl k:Nat} {Ac:Option Addr} {cl own:List Int} {ov cv:Value} {ch:List (Nat × Int)}
theorem UnS.drewN (h:UnS κ w g U go rr Ac L ccl cl k κ1 wr s1 V1 U1 own ov ch cv) (n:Nat):UnS κ w g U go rr Ac L ccl cl k κ1 (wr.drewN n) s1 V1 U1 own ov ch cv :=
 have f:=Fr.drewN κ1 wr n (fun _=>False)
 ⟨h.m.drewN n,h.f.trans (Fr.drewN _ _ _ _),h.sm,h.o.fr f id,h.ow.fr f id,h.hc.fr f id,h.cl.fr f id,h.n0,h.n1,h.n2,h.l1,h.l2⟩
theorem UnS.call (h:UnS κ w g U go rr Ac L ccl cl k κ1 wr s1 V1 U1 own ov ch cv) (hm:SolM κ2 w2 g s2 V2 U2) (hf:Fr κ1 κ2 wr w2 bJ) (hs:U1.same U2):UnS κ w g U go rr Ac L ccl cl k κ2 w2 s2 V2 U2 own ov ch cv :=
 ⟨hm,h.f.trans hf,h.sm.trans hs,h.o.fr hf id,h.ow.fr hf id,h.hc.fr hf id,h.cl.fr hf id,h.n0,h.n1,h.n2,h.l1,h.l2⟩
theorem UnS.own_ (h:UnS κ w g U go rr Ac L ccl cl k κ1 wr s1 V1 U1 own ov ch cv) {x:Int} {v':Value} {o:Obj} (ho:w2.ownsRow 0 3 1 v' (own.length+1) (ci own++[.int .i64 x])) (hg:(wr.alloc o).grownBy w2 ov.ownBlock) (hat:v'.ownBlock=ov.ownBlock∨v'.ownBlock=some (wr.alloc o).heap.size) :
  ∃κ2,UnS κ w g U go rr Ac L ccl cl (k+1) κ2 w2 s1 V1 U1 (own++[x]) v' ch cv:=by
 have f0:=Fr.alloc κ1 wr o (fun c=>c = .tmp 1)
 obtain ⟨κ2,j1,j2⟩:=(h.ow.fr (Fr.alloc κ1 wr o (fun _=>False)) id).app (S:=fun c=>c = .tmp 1) ho hg hat rfl
 have f:=f0.trans j2
 refine ⟨κ2,h.m.fr f fun c hc e=>by subst e;exact hc,?_,h.sm,h.o.fr f (by simp),?_,h.hc.fr f (by simp),h.cl.fr f (by simp),h.n0,fun j hj => ?_,h.n2,by have:=h.l1;simp;omega,by have:=h.l2;omega⟩
 ·have fl:Fr κ κ1 w w2 bJ:=(h.f.trans (Fr.alloc κ1 wr o bJ)).loc hg h.n1
  exact fl.recol fun j hj=>j2.ext j (zZ hj (qA h.f.size (by simp)))
 ·rw [cE,zJ];exact j1
 ·rcases hat with e|e
  ·exact h.n1 j (by rw [←e];exact hj)
  ·rw [e] at hj;injection hj with hj;have:=h.f.size;simp at hj;omega
theorem UnS.link (h:UnS κ w g U go rr Ac L ccl cl k κ1 wr s1 V1 U1 own ov ch cv) {q:Nat × Int} {v':Value} {o:Obj} (ho:w2.ownsRow 0 115 2 v' (ch.length+1) (aC ch++[.int .i64 (q.1:Int), .int .i64 q.2])) (hg:(wr.alloc o).grownBy w2 cv.ownBlock) (hat:v'.ownBlock=cv.ownBlock∨v'.ownBlock=some (wr.alloc o).heap.size) :
  w2.frozen? ⟨go,7,none⟩=false∧w2.cell? ⟨go,7,none⟩=some cv∧∃κ2,UnS κ w g U go rr Ac L ccl cl (k+1) κ2 (w2.setCell ⟨go,7,none⟩ v') s1 V1 U1 own ov (ch++[q]) v':=by
 have f0:=Fr.alloc κ1 wr o (fun c=>c = .tmp 2)
 obtain ⟨κ2,j1,j2⟩:=(h.hc.fr (Fr.alloc κ1 wr o (fun _=>False)) id).app (S:=fun c=>c = .tmp 2) ho hg hat rfl
 have f:=f0.trans j2
 have hb:=h.o.fr f (by simp)
 have f2:=frs κ2 w2 (i:=7) (u:=v') hb.k
 have ff:Fr κ1 κ2 wr (w2.setCell ⟨go,7,none⟩ v') (fun c=>c = .tmp 2∨c = .tmp 0):=(f.mono fun _ e => .inl e).trans (f2.mono fun _ e => .inr e)
 refine ⟨hb.frozen 7,hb.cell 7,κ2,h.m.fr ff (fun c hc e=>by rcases e with rfl|rfl<;>exact hc),?_,h.sm,?_,h.ow.fr ff (by simp),?_,h.cl.fr ff (by simp),h.n0,h.n1,fun j hj => ?_,by have:=h.l1;omega,by have:=h.l2;simp;omega⟩
 ·have fl:Fr κ κ1 w w2 bJ:=(h.f.trans (Fr.alloc κ1 wr o bJ)).loc hg h.n2
  have fl2:Fr κ κ2 w w2 bJ:=fl.recol fun j hj=>j2.ext j (zZ hj (qA h.f.size (by simp)))
  exact fl2.loc (jY w2 go 7 v') (fun j e=>by injection e with e;subst e;exact h.n0)
 ·exact hb.set_ 7 v'
 ·have:=j1.fr f2 (by simp)
  rw [lks_app,zJ]
  exact this
 ·rcases hat with e|e
  ·exact h.n2 j (by rw [←e];exact hj)
  ·rw [e] at hj;injection hj with hj;have:=h.f.size;simp at hj;omega
end
set_option maxRecDepth 100000 in
set_option maxHeartbeats 16000000 in
theorem oU {g:Nat}:∀(n:Nat) (κ:Kap) (w:World) (s:Sol) (V:EV) (U:SV) (v:Nat) (s2:Sol) (c:Nat),SolM κ w g s V U→dA n s v=some (s2,c) →
  Calls Try.prog 63 #[.pointer (some ⟨g,0,none⟩), .int .i64 (v:Int)] w (wP κ w g U bJ (.int .i64 (c:Int)) s2):=by
 obtain ⟨iI,hiI,hzI0,hzI1,hzI2⟩:=qD wV
 obtain ⟨iL,hiL,hzL0,hzL1,hzL2⟩:=qD fJ
 intro n
 induction n with
 | zero=>intro κ w s V U v s2 c _ h;cases h
 | succ n ih =>
  intro κ w s V U v s2 c h hq
  have IH:=Lib.hid ih
  clear ih
  obtain ⟨hv1,hv2,hcase⟩:=bS hq
  have hv:v<s.e.val.length:=by rw [←h.untl];exact hv1
  have q18:=h.eng.cellR (i:=9) rfl
  simp only [Nat.reduceAdd] at q18
  have qv:=h.untAt hv
  have HS:=Lib.hid h
  have y1:(v:Int)<(s.e.val.length:Int):=by omega
  generalize hB:s.e.val.length=B at *
  have HBL:=Lib.hid hB
  rcases hcase with ⟨h0,rfl,hc⟩|⟨h0,r,hr,hrc,hrl,hcase⟩
  ·rw [←hc] at qv h0
   clear h hq hc hv1 hv2 hB
   go_enter Try.func63,Try.ntmps63
   go_wp2_with fail
   go_ret
   exact ⟨rfl,κ,V,U,HS.out,Fr.refl _ _ _, .refl U⟩
  ·have q4:=h.eng.cellE (i:=4) rfl
   have qr:=h.eng.rsnAt (v:=v) (by rw [hB];exact hv)
   have q0:=h.eng.cellE (i:=0) rfl
   have hus:V.us.length=s.e.cls.length:=by have:=h.eng.cls.o.1;omega
   obtain ⟨u,hu⟩:∃u,V.us[r]? = some u:=⟨_,List.getElem?_eq_getElem (by omega)⟩
   obtain ⟨gs,caps,hvs, -, -,hscap,hsm,hsc, -⟩:=h.eng.cls.open_ (by omega)
   have hcl:=h.eng.cl r u hu
   obtain ⟨Ac,ccl,hua,hcc1,hcc2⟩:=hcl.shape
   subst hua
   have qc:=hsc r _ hu
   rw [hvs] at q0
   rw [hr] at qr
   have yr:(r:Int)<(s.e.cls.length:Int):=by omega
   have HCL:=Lib.hid hcl
   rw [hB] at q4
   unfold maxLen at hsm hcc2
   generalize hL:(s.e.cl r).length=L at *
   generalize hu0:s.unt.getD v 0=u0 at *
   have HLN:=Lib.hid hL
   have HR0:=Lib.hid (And.intro hv (And.intro hr hrc))
   have HRL:=Lib.hid hrl
   have HCS:=Lib.hid hcase
   clear h hq hr hcl hu hus hsc hvs hv1 hv2 hrc hrl hB hcase hu0
   by_cases h1:L=1
   ·subst h1
    obtain ⟨hs2,hc⟩:s2={ s with unt:=s.unt.set v r }∧c=r:=by
     rcases HCS.out with h|h
     ·exact ⟨h.2.1,h.2.2⟩
     ·exact absurd rfl h.1
    have zv:=HS.out.unt.frozen v
    have HFIN:Hid (wP κ w g U bJ (.int .i64 (c:Int)) s2 (.returned (.int .i64 (r:Int))) (w.setCell ⟨U.gu,v,none⟩ (.int .i64 (r:Int)))) :=
     Lib.hid ⟨by rw [hc],κ,V,U,by rw [hs2];exact HS.out.setUnt v (r:Int),(frs κ w HS.out.unt.k).mono fun c hc=>by subst hc;trivial, .refl U⟩
    clear HS HCS hs2 hc
    go_enter Try.func63,Try.ntmps63
    go_wp2_with fail
    go_ret
    exact HFIN.out
   ·obtain ⟨s1,own,ch,s3,hfold,hadd,hs2,hc⟩:=HCS.out.resolve_left (fun h=>h1 h.1) |>.2
    have HFO:=Lib.hid hfold
    have HAD:=Lib.hid (And.intro hadd (And.intro hs2 hc))
    clear hfold hadd hs2 hc HCS
    have y2:¬((L:Int)=1):=by omega
    have HQC:Hid (∀w1,Below w.heap.size w w1→w1.cell? ⟨g,0,none⟩=some (.slice (some ⟨gs,0,none⟩) s.e.cls.length caps)∧w1.cell? ⟨gs,r,none⟩=some (.slice Ac L ccl)):=Lib.hid fun w1 hb=>⟨(hb.cell (p:=⟨g,0,none⟩) HS.out.eng.blk.b.lt).trans q0,(hb.cell (p:=⟨gs,r,none⟩) (vI w ⟨gs,r,none⟩ qc)).trans qc⟩
    go_enter Try.func63,Try.ntmps63
    go_upto_region 8 with fail
    have f1:=Fr.make κ w (.cells #[.int .i64 0, .int .i64 0, .slice none 0 0, .int .i64 0, .int .i64 0, .int .i64 0, .int .i64 (r:Int), .slice none 0 0] 94) (.tmp 0) (fun _=>False)
    have HU0:Hid (UnS κ w g U w.heap.size r Ac L ccl (s.e.cl r) 0 (kset κ w.heap.size (.tmp 0)) (w.alloc (.cells #[.int .i64 0, .int .i64 0, .slice none 0 0, .int .i64 0, .int .i64 0, .int .i64 0, .int .i64 (r:Int), .slice none 0 0] 94)) s V U [] (.slice none 0 0) [] (.slice none 0 0)) :=
     Lib.hid ⟨HS.out.fr f1 fun _ _=>id,f1.mono fun _=>False.elim, .refl U,HB.new κ w (.tmp 0) _ _,Hold.nil _ _ _ _ _,Hold.nil _ _ _ _ _,HCL.out.fr f1 id,Nat.le_refl _,(fun j hj=>by cases hj),(fun j hj=>by cases hj),Nat.le_refl _,Nat.le_refl _⟩
    have q0:=(HQC.out _ ((zR w.heap.size w).alloc (Nat.le_refl _) (.cells #[.int .i64 0, .int .i64 0, .slice none 0 0, .int .i64 0, .int .i64 0, .int .i64 0, .int .i64 (r:Int), .slice none 0 0] 94))).1
    have qc:=(HQC.out _ ((zR w.heap.size w).alloc (Nat.le_refl _) (.cells #[.int .i64 0, .int .i64 0, .slice none 0 0, .int .i64 0, .int .i64 0, .int .i64 0, .int .i64 (r:Int), .slice none 0 0] 94))).2
    clear f1 HCL
    generalize w.alloc (.cells #[.int .i64 0, .int .i64 0, .slice none 0 0, .int .i64 0, .int .i64 0, .int .i64 0, .int .i64 (r:Int), .slice none 0 0] 94)=W1 at *
    generalize kset κ w.heap.size (.tmp 0)=κ1 at *
    go_upto_region 10 with fail
    clear q18 qv q4 qr q0 qc y1
    have HFO0:Hid (((s.e.cl r).drop 0).foldlM (uniStep n v) (s,[],[])=some (s1,own,ch)):=HFO
    generalize hcl:s.e.cl r=cl at *
    have HCLL:=Lib.hid hcl
    clear hcl HFO
    go_loopw [7,62] (fun ov i wr=>∃(k:Nat) (κ1:Kap) (t1:Sol) (V1:EV) (U1:SV) (own1:List Int) (Ao:Option Addr) (co:Nat) (ch1:List (Nat × Int)) (Av:Option Addr) (cv1:Nat),k≤L∧i = .int .i64 k∧ov = .slice Ao own1.length co ∧
     Hid (UnS κ w g U w.heap.size r Ac L ccl cl k κ1 wr t1 V1 U1 own1 (.slice Ao own1.length co) ch1 (.slice Av ch1.length cv1)∧(cl.drop k).foldlM (uniStep n v) (t1,own1,ch1)=some (s1,own,ch)∧t1.e.val=s.e.val)) (fun _ i _=>L-(intOf i).toNat)
    case atStart=>exact ⟨0,κ1,s,V,U,[],none,0,[],none,0,zQ _,rfl,rfl,Lib.hid ⟨HU0.out,HFO0.out,rfl⟩⟩
    case round =>
     clear HU0 HFO0
     obtain ⟨k,κ2,t1,V2,U2,own1,Ao,co,ch1,Av,cv1,hk,rfl,rfl,HS2⟩:=hrel
     have hLc:cl.length=L:=HLN.out
     have hLm:=HRL.out
     unfold LIM at hLm
     by_cases hlt:k<L
     ·obtain ⟨lit,hlit⟩:∃lit,cl[k]? = some lit:=⟨_,List.getElem?_eq_getElem (by omega)⟩
      have hdr:cl.drop k=lit::cl.drop (k+1):=by
       obtain ⟨h1,h2⟩:=zG.1 hlit
       rw [zT h1,h2]
      obtain ⟨hU,hfo,hval⟩:=HS2.out
      rw [hdr,qW] at hfo
      obtain ⟨ga,ca,e1, -, -, -, -,hcc, -⟩:=hU.cl.open_ (by omega)
      injection e1 with e1 _ e2
      subst e1
      subst e2
      have ql:=hcc k _ (wU hlit)
      have yk:(k:Int)<(L:Int):=by omega
      unfold uniStep at hfo
      simp only at hfo
      by_cases hlb:litB t1.unt.length lit=true
      ·rw [if_pos hlb] at hfo
       obtain ⟨l0,l1⟩:=wN hlb
       have hB2:t1.unt.length≤1024:=by rw [hU.m.untl];exact hU.m.eng.B
       have hi:=wZ (by omega) hlb
       have HV:Hid (∀W,Calls Try.prog 64 #[.int .i64 lit] W fun e w'=>e = .returned (.int .i64 (vr lit:Nat))∧W=w'):=fun W=>gI lit l0 hi.1 hi.2 W
       have HKL:=Lib.hid (And.intro hk (And.intro hlt hLm))
       have H1:Hid (own1.length+1≤maxLen∧(own1.length+1) * 8≤140737488355328):=by refine Lib.hid ?_;have:=hU.l1;unfold maxLen;omega
       have HMX:Hid (ch1.length+1≤maxLen∧(ch1.length+1) * 16≤140737488355328):=by refine Lib.hid ?_;have:=hU.l2;unfold maxLen;omega
       by_cases hvv:vr lit=v
       ·rw [if_pos hvv] at hfo
        have hfo:(cl.drop (k+1)).foldlM (uniStep n v) (t1,own1++[lit],ch1)=some (s1,own,ch):=hfo
        have HFO2:=Lib.hid hfo
        have HUU:=Lib.hid hU
        have HVL:=Lib.hid hval
        have yv:((vr lit:Nat):Int)=(v:Int):=by omega
        clear hval hfo hU hdr hlit hcc hlb l0 l1 hi hB2 HS2 hk hlt hLm hLc
        go_wp2_with fail
        refine (HV.out _).mono ?_
        rintro en W2 ⟨rfl,rfl⟩
        go_wp2_with (at_builtin;refine zW _ rfl _ _ 33 rfl 0 3 iI (.int .i64 0) 1 8 Try.underlying33 hiI hzI0 hzI1 hzI2 rfl (by decide) _ _ _ rfl (HUU.out.ow.o.alloc _) ⟨wr.heap.size,0,none⟩ 1 1 [.int .i64 lit] rfl rfl (wR wr _ _) ?a2 H1.out.1 H1.out.2 (zQ _) ?_)
        case a2=>first|rfl|(intro u hu;simp at hu;subst hu;rfl)
        intro v' w5 hown hgrow _ hat
        obtain ⟨A5,c5,hv5, -, -⟩:=wB hown
        subst hv5
        obtain ⟨κ3,hU3⟩:=HUU.out.own_ hown hgrow (by simpa using hat)
        have HN:Hid (UnS κ w g U w.heap.size r (some ⟨ga,0,none⟩) L ccl cl (k+1) κ3 w5 t1 V2 U2 (own1++[lit]) (.slice A5 (own1++[lit]).length c5) ch1 (.slice Av ch1.length cv1)∧(cl.drop (k+1)).foldlM (uniStep n v) (t1,own1++[lit],ch1)=some (s1,own,ch)∧t1.e.val=s.e.val):=Lib.hid ⟨by rw [zJ];exact hU3,HFO2.out,HVL.out⟩
        obtain ⟨hk,hlt,hLm⟩:=HKL.out
        clear hown hgrow hat hU3 HUU ql
        go_wp2_with fail
        go_roundw
        case rel=>exact ⟨k+1,κ3,t1,V2,U2,own1++[lit],A5,c5,ch1,Av,cv1,by omega,by go_num,by simp,HN⟩
        case measure=>simp [intOf];omega
       ·rw [if_neg hvv] at hfo
        cases hun:dA n t1 (vr lit) with
        | none=>rw [hun] at hfo;cases hfo
        | some q =>
        obtain ⟨t2,c2⟩:=q
        rw [hun] at hfo
        have hfo:(cl.drop (k+1)).foldlM (uniStep n v) (t2,own1,ch1++[(c2, -lit)])=some (s1,own,ch):=hfo
        have HFO2:=Lib.hid hfo
        have HUU:=Lib.hid hU
        have HVL:Hid (t2.e.val=s.e.val):=Lib.hid ((unitF_val _ _ _ _ _ hun).trans hval)
        have HUC:=Lib.hid (IH.out κ2 wr.drew t1 V2 U2 (vr lit) t2 c2 (hU.m.drewN 1) hun)
        have HOC:Hid (∀u∈([.int .i64 (c2:Int), .int .i64 (-lit)]:List Value),u.oneCell'=true):=Lib.hid (by intro u hu;simp at hu;rcases hu with rfl|rfl<;>rfl)
        have HUR:Hid (∀vu wu,wP κ2 wr.drew g U2 bJ (.int .i64 (c2:Int)) t2 (.returned vu) wu→vu = .int .i64 (c2:Int)∧(wu.cell? ⟨w.heap.size,7,none⟩=some (.slice Av ch1.length cv1)∧(wu.alloc (.cells #[.int .i64 (c2:Int), .int .i64 (-lit)] 115)).cell? ⟨w.heap.size,7,none⟩=some (.slice Av ch1.length cv1)∧(wu.alloc (.cells #[.int .i64 (c2:Int), .int .i64 (-lit)] 115)).ownsRow 0 115 2 (.slice Av ch1.length cv1) ch1.length (aC ch1) ∧
          ∀v' w2,w2.ownsRow 0 115 2 v' (ch1.length+1) (aC ch1++[.int .i64 (c2:Int), .int .i64 (-lit)])→(wu.alloc (.cells #[.int .i64 (c2:Int), .int .i64 (-lit)] 115)).grownBy w2 (Value.slice Av ch1.length cv1).ownBlock→(v'.ownBlock=(Value.slice Av ch1.length cv1).ownBlock∨v'.ownBlock=some (wu.alloc (.cells #[.int .i64 (c2:Int), .int .i64 (-lit)] 115)).heap.size) →
           w2.frozen? ⟨w.heap.size,7,none⟩=false∧w2.cell? ⟨w.heap.size,7,none⟩=some (.slice Av ch1.length cv1)∧∃κ4,∃V4 U4,UnS κ w g U w.heap.size r (some ⟨ga,0,none⟩) L ccl cl (k+1) κ4 (w2.setCell ⟨w.heap.size,7,none⟩ v') t2 V4 U4 own1 (.slice Ao own1.length co) (ch1++[(c2, -lit)]) v')):=by
         refine Lib.hid fun vu wu hu => ?_
         obtain ⟨hv9,κ3,V3,U3,hm3,hf3,hsm3⟩:=hu
         injection hv9 with hv9
         have hU3:=(HUU.out.drewN 1).call hm3 hf3 hsm3
         refine ⟨hv9,hU3.o.cell 7,(hU3.o.b.alloc _).cell 7,hU3.hc.o.alloc _,fun v' w2 k1 k2 k3 => ?_⟩
         obtain ⟨z,y,κ4,h4⟩:=hU3.link (q:=(c2, -lit)) k1 k2 k3
         exact ⟨z,y,κ4,V3,U3,h4⟩
        have q7:=HUU.out.o.cell 7
        simp only [zA,zB,zC] at q7
        have yv:¬(((vr lit:Nat):Int)=(v:Int)):=by omega
        have yn:IntKind.i64.wrap (-lit) = -lit:=by rw [qS];omega
        clear hval hfo hU hdr hlit hcc hlb l0 l1 hi hB2 HS2 hk hlt hLm hLc hun
        go_wp2_with fail
        refine (HV.out _).mono ?_
        rintro en W2 ⟨rfl,rfl⟩
        go_upto_region 14 with fail
        go_region_law (first|(refine wC rfl 64 _ _ rfl _ Try.func64 (by kernel_rfl) (by kernel_rfl) #[.int .i64 lit] (by first|rfl|(simp [Act.eval];done)|(simp [Act.eval,Act.put];done)) (HV.out _) (fun e w' h=>⟨_,h.1⟩) ?_;rintro v9 w9 ⟨hv9,rfl⟩;injection hv9 with hv9;subst hv9)|(refine wC rfl 63 _ _ rfl _ Try.func63 (by kernel_rfl) (by kernel_rfl) #[.pointer (some ⟨g,0,none⟩), .int .i64 (vr lit:Nat)] (by first|rfl|(simp [Act.eval];done)|(simp [Act.eval,Act.put];done)) HUC.out (fun e w' h=>⟨_,h.1⟩) ?_;intro vu wu hu;obtain ⟨hv9,hK⟩:=HUR.out vu wu hu;subst hv9;have HK:=Lib.hid hK;clear hK;have ca0:=HK.out.1;have ca1:=HK.out.2.1)|(refine jZ rfl (.tmp 75) (.tmp 83) 92 rfl 0 115 iL (.agg #[.int .i64 0, .int .i64 0]) 2 16 Try.underlying92 hiL hzL0 hzL1 hzL2 rfl (by decide) (.slice Av ch1.length cv1) ch1.length (aC ch1) (by first|rfl|(simp [Act.eval];done)|(simp [Act.eval,Act.put];done)) HK.out.2.2.1 ⟨wu.heap.size,0,none⟩ 1 1 [.int .i64 (c2:Int), .int .i64 (-lit)] (by first|rfl|(simp [Act.eval];done)|(simp [Act.eval,Act.put];done)) rfl (wY wu 115 [.int .i64 (c2:Int), .int .i64 (-lit)] rfl) HOC.out HMX.out.1 HMX.out.2 (zQ _) ?_;intro v' w2 hown hg hat;obtain ⟨A',c',hv', -, -, -⟩:=wB hown;subst hv';obtain ⟨z7,y7,κ4,V4,U4,hU4⟩:=HK.out.2.2.2 _ w2 hown hg hat;have HU4:=Lib.hid hU4;clear hown hg hat hU4))
        all_goals
         clear z7 y7 q7 ca0 ca1
         have HN:Hid (UnS κ w g U w.heap.size r (some ⟨ga,0,none⟩) L ccl cl (k+1) κ4 (w2.setCell ⟨w.heap.size,7,none⟩ (.slice A' (ch1.length+1) c')) t2 V4 U4 own1 (.slice Ao own1.length co) (ch1++[(c2, -lit)]) (.slice A' (ch1++[(c2, -lit)]).length c')∧(cl.drop (k+1)).foldlM (uniStep n v) (t2,own1,ch1++[(c2, -lit)])=some (s1,own,ch)∧t2.e.val=s.e.val):=Lib.hid ⟨by rw [zJ];exact HU4.out,HFO2.out,HVL.out⟩
         obtain ⟨hk,hlt,hLm⟩:=HKL.out
         clear HU4 HK HUR HUC HUU yn ql
         generalize w2.setCell ⟨w.heap.size,7,none⟩ (.slice A' (ch1.length+1) c')=W9 at *
         go_wp2_with fail
         go_roundw
         case rel=>exact ⟨k+1,κ4,t2,V4,U4,own1,Ao,co,ch1++[(c2, -lit)],A',c',by omega,by go_num,rfl,HN⟩
         case measure=>simp [intOf];omega
      ·rw [if_neg hlb] at hfo;cases hfo
     ·have hkl:k=L:=by omega
      subst hkl
      obtain ⟨hU,hfo,hval⟩:=HS2.out
      rw [qY (by omega)] at hfo
      injection hfo with hfo
      injection hfo with e1 e2
      injection e2 with e2 e3
      subst e1 e2 e3
      have yk:¬(k<k):=by omega
      have HUU:=Lib.hid hU
      obtain ⟨hadd,hs2,hc⟩:=HAD.out
      unfold Sol.addF at hadd
      split at hadd
      ·rename_i hlim
       injection hadd with hadd
       obtain ⟨κa,ha1,ha2,ha3⟩:=hU.ow.repaint (.cl t1.e.cls.length)
       have hch:Hold κa wr (.tmp 2) 115 2 (.slice Av ch1.length cv1) ch1.length (aC ch1):=hU.hc.rc fun j hj=>by rw [ha2 j (by rw [hj];simp)];exact hj
       obtain ⟨κb,hb1,hb2,hb3⟩:=hch.repaint (.och t1.org.length)
       have keep:∀c,c ≠ .tmp 1→c ≠ .tmp 2→∀j,κ2 j=some c→κb j=some c:=fun c n1 n2 j hj=>by
        have e1:κa j=κ2 j:=ha2 j (by rw [hj];simpa using n1)
        rw [hb2 j (by rw [e1,hj];simpa using n2),e1];exact hj
       have HSb:=Lib.hid (hU.m.rc (κ':=κb) fun c hc=>keep c (fun e=>by subst e;exact hc) (fun e=>by subst e;exact hc))
       have HOb:=Lib.hid (hU.o.rc (κ':=κb) (keep _ (by simp) (by simp)))
       have HCb:Hid (Hold κb wr (.cl t1.e.cls.length) 3 1 (.slice Ao own1.length co) own1.length (ci own1)):=Lib.hid ⟨ha1.o,fun j hj=>by
        have e1:=ha1.k j hj
        rw [hb2 j (by rw [e1];simp)];exact e1⟩
       have HHb:=Lib.hid hb1
       have HFb:Hid (Fr κ κb w wr bJ):=Lib.hid (hU.f.recol fun j hj=>by
        rw [hb3 j (fun e=>by have:=hU.n2 j e;omega),ha3 j (fun e=>by have:=hU.n1 j e;omega)])
       have HSM:=Lib.hid hU.sm
       have hadd2:=iG (o:=⟨wF,r,ch1⟩) (p:=(.slice none 0 0, .slice Av ch1.length cv1)) (HSb.out.drewN 1) (HCb.out.fr (Fr.drewN κb wr 1 fun _=>False) id) (Hold.nil _ _ _ _ _) (HHb.out.fr (Fr.drewN κb wr 1 fun _=>False) id) hlim.1 hlim.2
       have HADD:Hid (Calls Try.prog 66 #[.pointer (some ⟨g,0,none⟩), .slice Ao own1.length co, .agg #[.int .i64 0, .int .i64 0, .slice none 0 0, .int .i64 0, .int .i64 0, .int .i64 0, .int .i64 (r:Int), .slice Av ch1.length cv1]] wr.drew (wP κb wr.drew g U2 lM (.int .i64 (t1.e.cls.length:Int)) s3)):=Lib.hid (by rw [←hadd];exact hadd2)
       have hv2:t1.e.val.length=B:=by rw [hval];exact HBL.out
       have q18:=HSb.out.eng.cellR (i:=9) (u := .slice (some ⟨U2.gu,0,none⟩) B B) (by rw [←hv2];rfl)
       simp only [Nat.reduceAdd] at q18
       have o0:=HOb.out.cell 0
       have o1:=HOb.out.cell 1
       have o2:=HOb.out.cell 2
       have o3:=HOb.out.cell 3
       have o4:=HOb.out.cell 4
       have o5:=HOb.out.cell 5
       have o6:=HOb.out.cell 6
       have o7:=HOb.out.cell 7
       simp only [zA,zB,zC] at o0 o1 o2 o3 o4 o5 o6 o7
       have yB:(v:Int)<(B:Int):=by have:=HR0.out.1;omega
       have HV3:Hid (s3.e.val.length=B):=Lib.hid (by rw [←hadd];exact hv2)
       have HRES:=Lib.hid (And.intro hs2 hc)
       clear hU HS2 hlt hk hLm hLc ha1 ha2 ha3 hch hb1 hb2 hb3 keep hadd2 hadd hlim hs2 hc hval hv2 HUU HAD
       have HAR:Hid (∀vu wu,wP κb wr.drew g U2 lM (.int .i64 (t1.e.cls.length:Int)) s3 (.returned vu) wu→vu = .int .i64 (t1.e.cls.length:Int)∧wu.cell? ⟨g,18,none⟩=some (.slice (some ⟨U2.gu,0,none⟩) B B)∧wu.cell? ⟨U2.gu,v,none⟩=some (.int .i64 (s3.unt.getD v 0))∧wu.frozen? ⟨U2.gu,v,none⟩=false∧wP κ w g U bJ (.int .i64 (c:Int)) s2 (.returned (.int .i64 (t1.e.cls.length:Int))) (wu.setCell ⟨U2.gu,v,none⟩ (.int .i64 (t1.e.cls.length:Int)))∧(wu.setCell ⟨U2.gu,v,none⟩ (.int .i64 (t1.e.cls.length:Int))).cell? ⟨g,18,none⟩=some (.slice (some ⟨U2.gu,0,none⟩) B B)∧(wu.setCell ⟨U2.gu,v,none⟩ (.int .i64 (t1.e.cls.length:Int))).cell? ⟨U2.gu,v,none⟩=some (.int .i64 (t1.e.cls.length:Int))):=by
        refine Lib.hid fun vu wu hu => ?_
        obtain ⟨hv9,κ5,V5,U5,hm5,hf5,hsm5⟩:=hu
        injection hv9 with hv9
        have hgu:U5.gu=U2.gu:=hsm5.2.2.2.2.2.2.2.1
        have q:=hm5.eng.cellR (i:=9) (u := .slice (some ⟨U5.gu,0,none⟩) B B) (by rw [←HV3.out];rfl)
        have hu5:=hm5.untAt (v:=v) (by rw [HV3.out];exact HR0.out.1)
        have hz:=hm5.unt.frozen v
        have hm6:=hm5.setUnt v (t1.e.cls.length:Int)
        have hf6:=frs κ5 wu (i:=v) (u := .int .i64 (t1.e.cls.length:Int)) hm5.unt.k
        have q6:=hm6.eng.cellR (i:=9) (u := .slice (some ⟨U5.gu,0,none⟩) B B) (by rw [←HV3.out];rfl)
        have hu6:=hm6.untAt (v:=v) (by show v<s3.e.val.length;rw [HV3.out];exact HR0.out.1)
        have hlt3:v<s3.unt.length:=by rw [hm5.untl,HV3.out];exact HR0.out.1
        rw [hgu] at q hu5 hz hm6 hf6 q6 hu6
        refine ⟨hv9,q,hu5,hz,⟨by rw [HRES.out.2],κ5,V5,U5,by rw [HRES.out.1];exact hm6,HFb.out.trans ((Fr.drew κb wr bJ).trans ((hf5.mono fun c hc=>pW hc).trans (hf6.mono fun c hc=>by subst hc;trivial))),HSM.out.trans hsm5⟩,q6,?_⟩
        rw [hu6]
        congr 2
        show (s3.unt.set v _).getD v 0=_
        rw [List.getD_eq_getElem?_getD,xM hlt3];rfl
       go_upto_region 16 with fail
       go_region_law (refine wC rfl 66 _ _ rfl _ Try.func66 (by kernel_rfl) (by kernel_rfl) #[.pointer (some ⟨g,0,none⟩), .slice Ao own1.length co, .agg #[.int .i64 0, .int .i64 0, .slice none 0 0, .int .i64 0, .int .i64 0, .int .i64 0, .int .i64 (r:Int), .slice Av ch1.length cv1]] (by first|rfl|(simp [Act.eval];done)|(simp [Act.eval,Act.put];done)) HADD.out (fun e w' h=>⟨_,h.1⟩) ?_;intro vu wu hu;obtain ⟨hv9,a18,au,az,hfin,b18,bu⟩:=HAR.out vu wu hu;subst hv9;have HFIN:=Lib.hid hfin;clear hfin)
       all_goals
        clear a18 au az q18 o0 o1 o2 o3 o4 o5 o6 o7
        generalize wu.setCell ⟨U2.gu,v,none⟩ (.int .i64 (t1.e.cls.length:Int))=W9 at *
        go_wp2_with fail
        go_ret
        exact HFIN.out
      ·cases hadd
end Go.Proofs.Yticieifacalocaa
