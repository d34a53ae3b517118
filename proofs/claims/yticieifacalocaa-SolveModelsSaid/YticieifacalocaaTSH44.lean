/- SolBack SolLrnW -/
import Derived.Test.YticieifacalocaaTSH43
namespace Go.Proofs.Yticieifacalocaa
open Go.RowKit
def bP:Col→Prop
 | .slv | .val | .rsn | .act | .arcs | .ar _=>True
 | _=>False
theorem remC_back {c:Col} (h:lH c):bP c:=by cases c<;>first|trivial|exact h
section
variable {κ κ':Kap} {w w':World} {g:Nat} {t:TypeId} {rest:List Value} {x:Int} {e:Eng} {s:Sol} {V:EV} {U:SV} {av:Value} {f:Form} {S:Col→Prop}
theorem EngM.cutTr (h:EngM κ w g t rest x e V) {m:Nat} (hm:m≤e.tr.length) {A:Option Addr} {c:Nat} (hv:V.vt = .slice A e.tr.length c):EngM κ (w.setCell ⟨g,6,none⟩ (.slice A m c)) g t rest x { e with tr:=e.tr.take m } { V with vt := .slice A m c }:=by
 have f:=frs κ w (i:=6) (u := .slice A m c) h.blk.k
 refine ⟨?_,h.cls.fr f (by simp),fun c u hu=>(h.cl c u hu).fr f (by simp),h.inp.fr f (by simp),h.val.fr f (by simp),h.rsn.fr f (by simp),h.lvl.fr f (by simp),h.rl,h.ll,?_,h.st.fr f (by simp),h.wat.fr f (by simp),fun l hl h0=>(h.wt l hl h0).fr f (by simp),h.B,h.v3⟩
 ·have:=h.blk.set_ 6 (.slice A m c)
  rw [wQ] at this
  exact this
 ·have:=(h.tr.cut hm hv).fr f (by simp)
  rw [yA] at this
  show Hold _ _ _ _ _ _ (e.tr.take m).length (ci (e.tr.take m))
  rw [qO,yG hm,show ci (e.tr.take m)=(ci e.tr).take m by simp [ci]]
  exact this
theorem EngM.cutSt (h:EngM κ w g t rest x e V) {m:Nat} (hm:m≤e.st.length) {A:Option Addr} {c:Nat} (hv:V.vs = .slice A e.st.length c):EngM κ (w.setCell ⟨g,7,none⟩ (.slice A m c)) g t rest x { e with st:=e.st.take m } { V with vs := .slice A m c }:=by
 have f:=frs κ w (i:=7) (u := .slice A m c) h.blk.k
 refine ⟨?_,h.cls.fr f (by simp),fun c u hu=>(h.cl c u hu).fr f (by simp),h.inp.fr f (by simp),h.val.fr f (by simp),h.rsn.fr f (by simp),h.lvl.fr f (by simp),h.rl,h.ll,h.tr.fr f (by simp),?_,h.wat.fr f (by simp),fun l hl h0=>(h.wt l hl h0).fr f (by simp),h.B,h.v3⟩
 ·have:=h.blk.set_ 7 (.slice A m c)
  rw [wQ] at this
  exact this
 ·have:=(h.st.cut hm hv).fr f (by simp)
  rw [yA] at this
  show Hold _ _ _ _ _ _ (e.st.take m).length (cn (e.st.take m))
  rw [qO,yG hm,show cn (e.st.take m)=(cn e.st).take m by simp [cn]]
  exact this
def BkS (κ κj:Kap) (w wr:World) (g:Nat) (f:Form) (s:Sol) (U:SV) (rm:List Int) (s1 sj:Sol) (Vj:EV) (Uj:SV):Prop :=
 SolM κj wr g sj Vj Uj∧Fr κ κj w wr bP∧U.same Uj∧sj.e.tr=s.e.tr∧sj.e.st=s.e.st∧rm.foldlM (fun s lit=>if undoOk f s lit=true then some (undoF f s lit) else none) sj=some s1
set_option maxRecDepth 100000 in
set_option maxHeartbeats 8000000 in
theorem eI (h:SolM κ w g s V U) (hd:DU κ w U.av f.atoms) (hC:∀d∈f.atoms, -9223372036854775807≤d.c) {level:Nat} {s2:Sol} (hq:backF f s level=some s2) :
  Calls Try.prog 61 #[.pointer (some ⟨g,0,none⟩), .int .i64 (level:Int)] w (wP κ w g U bP (.tuple #[]) s2):=by
 obtain ⟨As,cs,hvs,hcs,hcm⟩:=h.eng.st.shape
 have q7:=h.eng.cellE (i:=7) rfl
 rw [hvs] at q7
 unfold maxLen at hcm
 unfold backF at hq
 have HS:=Lib.hid h
 have HD:=Lib.hid hd
 have HC:=Lib.hid hC
 by_cases hle:s.e.st.length≤level
 ·rw [if_pos hle] at hq
  injection hq with hq
  subst hq
  have y1:(s.e.st.length:Int)≤(level:Int):=by omega
  clear h hd hC hvs
  go_enter Try.func61,Try.ntmps61
  go_wp2_with fail
  go_end0
  exact ⟨rfl,κ,V,U,HS.out,Fr.refl _ _ _, .refl U⟩
 ·rw [if_neg hle] at hq
  simp only at hq
  have hlt:level<s.e.st.length:=by omega
  generalize hfirst:s.e.st.getD level 0=first at *
  by_cases hft:first≤s.e.tr.length
  ·rw [if_pos hft] at hq
   cases hfold:(s.e.tr.drop first).reverse.foldlM (fun s lit=>if undoOk f s lit=true then some (undoF f s lit) else none) s with
   | none=>rw [hfold] at hq;cases hq
   | some s1 =>
   rw [hfold] at hq
   injection hq with hq
   have HQ:=Lib.hid hq
   have hat:s.e.st[level]? = some first:=by rw [List.getElem?_eq_getElem hlt,←hfirst,List.getD_eq_getElem?_getD,List.getElem?_eq_getElem hlt];rfl
   obtain ⟨gs,caps,e1, -, -, -, -,hcc, -⟩:=h.eng.st.open_ (by omega)
   rw [hvs] at e1
   injection e1 with e1 _ _
   subst e1
   have ql:=hcc level _ (cn_at hat)
   obtain ⟨At,ct,hvt,hct,hcmt⟩:=h.eng.tr.shape
   have q6:=h.eng.cellE (i:=6) rfl
   rw [hvt] at q6
   unfold maxLen at hcmt
   have HS0:Hid (BkS κ κ w w g f s U (s.e.tr.drop first).reverse s1 s V U):=Lib.hid ⟨h,Fr.refl _ _ _, .refl U,rfl,rfl,hfold⟩
   have hrl:(s.e.tr.drop first).reverse.length=s.e.tr.length-first:=by simp
   generalize hrm:(s.e.tr.drop first).reverse=rm at *
   have HRM:Hid (∀j,j<rm.length→rm[j]? = s.e.tr[s.e.tr.length-1-j]?):=by
    refine Lib.hid fun j hj => ?_
    rw [←hrm,uZ (by rw [←hrm] at hj;simpa using hj),yH,yW]
    congr 1
    omega
   have y1:¬((s.e.st.length:Int)≤(level:Int)):=by omega
   have y2:(level:Int)<(s.e.st.length:Int):=by omega
   have hT:s.e.tr.length≤9223372036854775807:=by omega
   generalize hTl:s.e.tr.length=T at *
   have HTL:=Lib.hid hTl
   have HRL:=Lib.hid hrl
   clear h hd hC hvs hle hq hfold hat hcc hvt hrm hTl hfirst HS hrl
   go_enter Try.func61,Try.ntmps61
   go_wp2_with fail
   go_loopw [5] (fun i wr=>∃(j:Nat) (κj:Kap) (sj:Sol) (Vj:EV) (Uj:SV),j≤T-first∧i = .int .i64 ((T:Int)-1-(j:Int))∧Hid (BkS κ κj w wr g f s U (rm.drop j) s1 sj Vj Uj)) (fun i _=>(intOf i+1-(first:Int)).toNat)
   case atStart=>exact ⟨0,κ,s,V,U,zQ _,by go_num,HS0⟩
   case round =>
    clear HS0
    obtain ⟨j,κj,sj,Vj,Uj,hj,rfl,HS⟩:=hrel
    by_cases hlt:j<T-first
    ·obtain ⟨lit,hlit⟩:∃lit,s.e.tr[T-1-j]? = some lit:=⟨_,List.getElem?_eq_getElem (by have:=HTL.out;omega)⟩
     have hr:rm[j]? = some lit:=by rw [HRM.out j (by have:=HRL.out;omega)];exact hlit
     have hdr:rm.drop j=lit::rm.drop (j+1):=by
      obtain ⟨h1,h2⟩:=zG.1 hr
      rw [zT h1,h2]
     obtain ⟨hm,hF,hsame,htr,hst,hfold⟩:=HS.out
     rw [hdr,qW] at hfold
     by_cases hok:undoOk f sj lit=true
     ·rw [if_pos hok] at hfold
      have hfold:(rm.drop (j+1)).foldlM (fun s lit=>if undoOk f s lit=true then some (undoF f s lit) else none) (undoF f sj lit)=some s1:=hfold
      simp only [undoOk,xE,qI] at hok
      obtain ⟨⟨hl,hactl⟩,harc⟩:=hok
      obtain ⟨l0,l1⟩:=wN hl
      have hi:=wZ (by have:=hm.eng.B;omega) hl
      have HV:Hid (∀W,Calls Try.prog 64 #[.int .i64 lit] W fun e w'=>e = .returned (.int .i64 (vr lit:Nat))∧W=w'):=fun W=>gI lit l0 hi.1 hi.2 W
      have HREM:=Lib.hid (rY (i:=Uj.fi) (j:=Uj.fb) (cv:=Uj.cv) (hm.drewN 1) (av:=Uj.av) (ds:=f.atoms) (by rw [hsame.2.2.2.1];exact HD.out.fr (hF.trans (Fr.drewN _ _ _ _))) HC.out hl (fun ha d hd=>by
       have hb2:=harc
       rw [ha,hd] at hb2
       simp only [Bool.not_true,Bool.false_or,qI] at hb2
       refine ⟨d.y.toNat,by omega,by rw [←hm.aln];omega,hb2.2.2⟩))
      obtain ⟨Aj,cj,hvtj,hctj,hcmj⟩:=hm.eng.tr.shape
      rw [htr,HTL.out] at hvtj hctj
      obtain ⟨gt,capt,e1, -, -, -, -,hcc, -⟩:=hm.eng.tr.open_ (by rw [htr,HTL.out];omega)
      rw [hvtj] at e1
      injection e1 with e1 _ _
      subst e1
      have qt:=hcc (T-1-j) _ (wU (by rw [htr];exact hlit))
      have q6:=hm.eng.cellE (i:=6) rfl
      rw [hvtj] at q6
      have q13:=hm.eng.cellR (i:=4) rfl
      have q14:=hm.eng.cellR (i:=5) rfl
      have q15:=hm.eng.cellR (i:=6) rfl
      have q16:=hm.eng.cellR (i:=7) rfl
      simp only [Nat.reduceAdd] at q13 q14 q15 q16
      have hp:(T:Int)-1-(j:Int)=((T-1-j:Nat):Int):=by omega
      have yt:((T-1-j:Nat):Int)<(T:Int):=by omega
      have yf:((T-1-j:Nat):Int)≥(first:Int):=by omega
      have yf2:T-1-j≥first:=by omega
      have HFO:=Lib.hid hfold
      have HP:=Lib.hid hp
      have HEQ:=Lib.hid (And.intro htr hst)
      have HL:=Lib.hid (And.intro l1 hl)
      have HF:=Lib.hid hF
      have HSM:=Lib.hid hsame
      have HBB:=Lib.hid hm.eng.B
      have HJ:=Lib.hid (And.intro hj hlt)
      rw [hp]
      generalize T-1-j=p at *
      clear hlit hr hdr hm hF hsame htr hst hfold hactl harc hl hvtj hctj hcmj hcc hp HS hj hlt l0 hi
      go_wp2_with fail
      go_region_law (refine wC rfl 84 _ _ rfl _ Try.func84 (by kernel_rfl) (by kernel_rfl) #[.pointer (some ⟨g,10,none⟩), .agg #[.int .i64 Uj.fi, .int .i64 Uj.fb,Uj.av,Uj.cv], .int .i64 lit] (by first|rfl|(simp [Act.eval];done)|(simp [Act.eval,Act.put];done)) HREM.out (fun e w' h=>⟨_,h.1⟩) ?_;rintro v9 w9 ⟨hv9,κ5,V5,U5,hS5,hF5,hsm5⟩;injection hv9 with hv9;subst hv9;have HS5:=Lib.hid hS5;have HF5:=Lib.hid (HF.out.trans ((Fr.drew κj wr bP).trans (hF5.mono fun c hc=>remC_back hc)));have HSM5:=Lib.hid (HSM.out.trans hsm5);clear hS5 hF5 hsm5)
      clear HREM HF HSM q6 q13 q14 q15 q16 qt
      have h1:(remF f.atoms sj lit).e.val.length=sj.e.val.length:=rfl
      have q3:=HS5.out.eng.cellE (i:=3) rfl
      have qv:=HS5.out.eng.valAt (v:=vr lit) l1
      have zv:=HS5.out.eng.val.frozen (vr lit)
      have HS6:Hid (SolM κ5 (w9.setCell ⟨V5.gv,vr lit,none⟩ (.int .i8 0)).drew g _ V5 U5):=Lib.hid ((HS5.out.setVal (vr lit) (y:=0) (.inl rfl)).drewN 1)
      have HF6:Hid (Fr κ κ5 w (w9.setCell ⟨V5.gv,vr lit,none⟩ (.int .i8 0)).drew bP):=Lib.hid (HF5.out.trans (((frs κ5 w9 HS5.out.eng.val.k).mono fun c hc=>by subst hc;trivial).trans (Fr.drew _ _ _)))
      have q3b:=(HS5.out.setVal (vr lit) (y:=0) (.inl rfl)).eng.cellE (i:=3) rfl
      simp only [zX,h1] at q3 q3b
      have yv:((vr lit:Nat):Int)<(sj.e.val.length:Int):=by omega
      clear HS5 HF5
      go_upto_region 7 with fail
      go_region_held_law (fun w'=>w'.cell? ⟨g,3,none⟩=some (.slice (some ⟨V5.gv,0,none⟩) sj.e.val.length sj.e.val.length)) (first|exact q3|exact q3b) ((refine wC rfl 64 _ _ rfl _ Try.func64 (by kernel_rfl) (by kernel_rfl) #[.int .i64 lit] (by first|rfl|(simp [Act.eval];done)|(simp [Act.eval,Act.put];done)) (HV.out _) (fun e w' h=>⟨_,h.1⟩) ?_;rintro v9 w9 ⟨hv9,rfl⟩;injection hv9 with hv9;subst hv9))
      generalize (w9.setCell ⟨V5.gv,vr lit,none⟩ (.int .i8 0)).drew=W6 at *
      clear q3 q3b qv zv
      have hl6:({ remF f.atoms sj lit with e:={ (remF f.atoms sj lit).e with val:=(remF f.atoms sj lit).e.val.set (vr lit) 0 } }:Sol).e.val.length=sj.e.val.length:=zX
      have q4:=HS6.out.eng.cellE (i:=4) (u := .slice (some ⟨V5.gr,0,none⟩) sj.e.val.length sj.e.val.length) (by rw [hl6];rfl)
      have qv:=HS6.out.eng.rsnAt (v:=vr lit) (by rw [hl6];exact l1)
      have zv:=HS6.out.eng.rsn.frozen (vr lit)
      have HS7:Hid (SolM κ5 (W6.setCell ⟨V5.gr,vr lit,none⟩ (.int .i64 (-1))).drew g _ V5 U5):=Lib.hid ((HS6.out.setRsn (vr lit) (-1)).drewN 1)
      have HF7:Hid (Fr κ κ5 w (W6.setCell ⟨V5.gr,vr lit,none⟩ (.int .i64 (-1))).drew bP):=Lib.hid (HF6.out.trans (((frs κ5 W6 HS6.out.eng.rsn.k).mono fun c hc=>by subst hc;trivial).trans (Fr.drew _ _ _)))
      have q4b:=(HS6.out.setRsn (vr lit) (-1)).eng.cellE (i:=4) (u := .slice (some ⟨V5.gr,0,none⟩) sj.e.val.length sj.e.val.length) (by rw [show ({ ({ remF f.atoms sj lit with e:={ (remF f.atoms sj lit).e with val:=(remF f.atoms sj lit).e.val.set (vr lit) 0 } }:Sol) with e:={ ({ remF f.atoms sj lit with e:={ (remF f.atoms sj lit).e with val:=(remF f.atoms sj lit).e.val.set (vr lit) 0 } }:Sol).e with rsn:=({ remF f.atoms sj lit with e:={ (remF f.atoms sj lit).e with val:=(remF f.atoms sj lit).e.val.set (vr lit) 0 } }:Sol).e.rsn.set (vr lit) (-1) } }:Sol).e.val.length=sj.e.val.length from hl6];rfl)
      clear HS6 HF6
      go_upto_region 8 with fail
      go_region_held_law (fun w'=>w'.cell? ⟨g,4,none⟩=some (.slice (some ⟨V5.gr,0,none⟩) sj.e.val.length sj.e.val.length)) (first|exact q4|exact q4b) ((refine wC rfl 64 _ _ rfl _ Try.func64 (by kernel_rfl) (by kernel_rfl) #[.int .i64 lit] (by first|rfl|(simp [Act.eval];done)|(simp [Act.eval,Act.put];done)) (HV.out _) (fun e w' h=>⟨_,h.1⟩) ?_;rintro v9 w9 ⟨hv9,rfl⟩;injection hv9 with hv9;subst hv9))
      generalize (W6.setCell ⟨V5.gr,vr lit,none⟩ (.int .i64 (-1))).drew=W7 at *
      clear q4 q4b qv zv
      have HB7:Hid (BkS κ κ5 w W7 g f s U (rm.drop (j+1)) s1 (undoF f sj lit) V5 U5):=Lib.hid ⟨HS7.out,HF7.out,HSM5.out,HEQ.out.1,HEQ.out.2,HFO.out⟩
      clear HS7 HF7 HSM5 HFO h1
      go_wp2_with fail
      go_roundw
      case rel =>
       have h1:=HJ.out.2
       have h2:=HP.out
       exact ⟨j+1,by omega,by omega,κ5,_,V5,U5,HB7⟩
      case measure=>have:=HP.out;simp only [intOf];first|omega|(rw [qS];omega)
     ·rw [if_neg hok] at hfold;cases hfold
    ·have hjt:(T:Int)-1-(j:Int)=(first:Int)-1:=by omega
     rw [hjt]
     obtain ⟨hm,hF,hsame,htr,hst,hfold⟩:=HS.out
     rw [qY (by have:=HRL.out;omega)] at hfold
     injection hfold with hfold
     subst hfold
     have y3:¬((first:Int)-1≥(first:Int)):=by omega
     obtain ⟨Aj,cj,hvtj,hctj,hcmj⟩:=hm.eng.tr.shape
     obtain ⟨Bj,dj,hvsj,hdtj,hdmj⟩:=hm.eng.st.shape
     have q6:=hm.eng.cellE (i:=6) rfl
     rw [hvtj,htr,HTL.out] at q6
     have z6:=hm.eng.frz 6
     have HM:=Lib.hid hm
     have HF:=Lib.hid hF
     have HSM:=Lib.hid hsame
     have HEQ:=Lib.hid (And.intro htr hst)
     have HVT:=Lib.hid (And.intro hvtj hvsj)
     rw [htr,HTL.out] at hctj
     rw [hst] at hdtj
     unfold maxLen at hcmj hdmj
     have y4:first≤cj:=by omega
     have y5:level≤dj:=by omega
     clear hm hF hsame htr hst hvtj hvsj HS hjt hlt hj q7 ql
     go_upto_region 9 with fail
     go_upto_region 10 with fail
     have hE6:=HM.out.eng.cutTr (m:=first) (by rw [HEQ.out.1,HTL.out];exact hft) (A:=Aj) (c:=cj) HVT.out.1
     have HE6:=Lib.hid hE6
     have HF6:Hid (Fr κ κj w (wr.setCell ⟨g,6,none⟩ (.slice Aj first cj)) bP):=Lib.hid (HF.out.trans ((frs κj wr HM.out.eng.blk.k).mono fun c hc=>by subst hc;trivial))
     have f6:Fr κj κj wr (wr.setCell ⟨g,6,none⟩ (.slice Aj first cj)) wK:=(frs κj wr HM.out.eng.blk.k).mono fun c hc=>by subst hc;trivial
     have HS6:=Lib.hid (HM.out.withE f6 (fun c hc=>hc) hE6 rfl)
     clear hE6 f6 HM HF q6 z6 HE6
     generalize wr.setCell ⟨g,6,none⟩ (.slice Aj first cj)=W6 at *
     have q7:=HS6.out.eng.cellE (i:=7) rfl
     have hq7:W6.cell? ⟨g,7,none⟩=some (.slice Bj s.e.st.length dj):=by rw [q7];have:=HVT.out.2;rw [HEQ.out.2] at this;exact congrArg some this
     have z7:=HS6.out.eng.frz 7
     clear q7
     go_upto_region 11 with fail
     have hE7:=HS6.out.eng.cutSt (m:=level) (by show level≤sj.e.st.length;rw [HEQ.out.2];omega) (A:=Bj) (c:=dj) HVT.out.2
     have f7:Fr κj κj W6 (W6.setCell ⟨g,7,none⟩ (.slice Bj level dj)) wK:=(frs κj W6 HS6.out.eng.blk.k).mono fun c hc=>by subst hc;trivial
     have HF7:Hid (Fr κ κj w (W6.setCell ⟨g,7,none⟩ (.slice Bj level dj)) bP):=Lib.hid (HF6.out.trans ((frs κj W6 HS6.out.eng.blk.k).mono fun c hc=>by subst hc;trivial))
     have HS7:=Lib.hid (HS6.out.withE f7 (fun c hc=>hc) hE7 rfl)
     clear hE7 f7 HS6 HF6 hq7 z7
     generalize W6.setCell ⟨g,7,none⟩ (.slice Bj level dj)=W7 at *
     have q8:=HS7.out.eng.cellE (i:=8) rfl
     have z8:=HS7.out.eng.frz 8
     have f8:Fr κj κj W7 (W7.setCell ⟨g,8,none⟩ (.int .i64 (first:Int))) wK:=(frs κj W7 HS7.out.eng.blk.k).mono fun c hc=>by subst hc;trivial
     have HF8:Hid (Fr κ κj w (W7.setCell ⟨g,8,none⟩ (.int .i64 (first:Int))) bP):=Lib.hid (HF7.out.trans ((frs κj W7 HS7.out.eng.blk.k).mono fun c hc=>by subst hc;trivial))
     have HS8:=Lib.hid (HS7.out.withE f8 (fun c hc=>hc) (HS7.out.eng.setHd first) rfl)
     clear f8 HS7 HF7
     go_wp2_with fail
     go_end0
     refine ⟨rfl,κj,{ Vj with vt := .slice Aj first cj,vs := .slice Bj level dj },Uj,?_,HF8.out,HSM.out⟩
     have:=HS8.out
     rw [←HQ.out]
     exact this
  ·rw [if_neg hft] at hq;cases hq
end
def aO:Col→Prop
 | .slv | .cls | .org | .unt | .acty=>True
 | _=>False
theorem uniC_lrn {c:Col} (h:bJ c):aO c:=by cases c<;>first|trivial|exact h
structure LT where
 (bs bo be bq bc bf bn conf:Nat)
def orgA (conf:Nat) (hv:Value):Array Value := #[.int .i64 0, .int .i64 0, .slice none 0 0, .int .i64 0, .int .i64 0, .int .i64 0, .int .i64 (conf:Int),hv]
structure LnS (κ0:Kap) (w0:World) (g:Nat) (U0:SV) (T:LT) (κ:Kap) (w:World) (s:Sol) (V:EV) (U:SV) (p:Lrn) (cv fv hv:Value) (ch:List (Nat × Int)):Prop where
 m:SolM κ w g { s with acty:=p.acty } V U
 f:Fr κ0 κ w0 w aO
 sm:U0.same U
 sb:HB κ w (.tmp 0) T.bs 77 #[.pointer (some ⟨g,0,none⟩)]
 ob:HB κ w (.tmp 1) T.bo 94 (orgA T.conf hv)
 eb:HB κ w (.tmp 2) T.be 32 #[.slice (some ⟨T.bq,0,none⟩) s.e.val.length s.e.val.length]
 qb:HB κ w (.tmp 3) T.bq 4 (cbs p.seen).toArray
 cb:HB κ w (.tmp 4) T.bc 33 #[cv]
 fb:HB κ w (.tmp 5) T.bf 33 #[fv]
 nb:HB κ w (.tmp 6) T.bn 3 #[.int .i64 p.opn]
 cr:Hold κ w (.tmp 7) 3 1 cv p.clause.length (ci p.clause)
 fr:Hold κ w (.tmp 8) 3 1 fv p.fixed.length (ci p.fixed)
 hr:Hold κ w (.tmp 9) 115 2 hv ch.length (aC ch)
 n:∀b∈[T.bs,T.bo,T.be,T.bq,T.bc,T.bf,T.bn],w0.heap.size≤b
 nc:∀j,cv.ownBlock=some j→w0.heap.size≤j
 nf:∀j,fv.ownBlock=some j→w0.heap.size≤j
 nh:∀j,hv.ownBlock=some j→w0.heap.size≤j
section
variable {κ0 κ κ2:Kap} {w0 w w2:World} {g:Nat} {U0 U U2:SV} {T:LT} {s s2:Sol} {V V2:EV} {p:Lrn} {cv fv hv:Value} {ch:List (Nat × Int)}
theorem LnS.drewN (h:LnS κ0 w0 g U0 T κ w s V U p cv fv hv ch) (n:Nat):LnS κ0 w0 g U0 T κ (w.drewN n) s V U p cv fv hv ch :=
 have f:=Fr.drewN κ w n (fun _=>False)
 ⟨h.m.drewN n,h.f.trans (Fr.drewN _ _ _ _),h.sm,h.sb.fr f id,h.ob.fr f id,h.eb.fr f id,h.qb.fr f id,h.cb.fr f id,h.fb.fr f id,h.nb.fr f id,h.cr.fr f id,h.fr.fr f id,h.hr.fr f id,h.n,h.nc,h.nf,h.nh⟩
theorem LnS.alloc (h:LnS κ0 w0 g U0 T κ w s V U p cv fv hv ch) (o:Obj):LnS κ0 w0 g U0 T κ (w.alloc o) s V U p cv fv hv ch :=
 have f:=Fr.alloc κ w o (fun _=>False)
 ⟨h.m.alloc o,h.f.trans (Fr.alloc _ _ _ _),h.sm,h.sb.fr f id,h.ob.fr f id,h.eb.fr f id,h.qb.fr f id,h.cb.fr f id,h.fb.fr f id,h.nb.fr f id,h.cr.fr f id,h.fr.fr f id,h.hr.fr f id,h.n,h.nc,h.nf,h.nh⟩
theorem LnS.see (h:LnS κ0 w0 g U0 T κ w s V U p cv fv hv ch) (v:Nat):LnS κ0 w0 g U0 T κ (w.setCell ⟨T.bq,v,none⟩ (.bool true)) s V U { p with seen:=p.seen.set v true } cv fv hv ch:=by
 have f:=frs κ w (i:=v) (u := .bool true) h.qb.k
 refine ⟨h.m.fr f fun c hc e=>by subst e;exact hc,h.f.loc (jY w T.bq v _) (fun j e=>by injection e with e;subst e;exact h.n _ (by simp)),h.sm,h.sb.fr f (by simp),h.ob.fr f (by simp),h.eb.fr f (by simp),?_,h.cb.fr f (by simp),h.fb.fr f (by simp),h.nb.fr f (by simp),h.cr.fr f (by simp),h.fr.fr f (by simp),h.hr.fr f (by simp),h.n,h.nc,h.nf,h.nh⟩
 have:=h.qb.set_ v (.bool true)
 rw [wQ,←eD] at this
 exact this
theorem LnS.more (h:LnS κ0 w0 g U0 T κ w s V U p cv fv hv ch) (v:Nat) (y:Int):LnS κ0 w0 g U0 T κ (w.setCell ⟨U.gy,v,none⟩ (.int .i64 y)) s V U { p with acty:=p.acty.set v y } cv fv hv ch:=by
 have f:=frs κ w (i:=v) (u := .int .i64 y) h.m.acty.k
 exact ⟨h.m.setActy v y,h.f.trans (f.mono fun c hc=>by subst hc;trivial),h.sm,h.sb.fr f (by simp),h.ob.fr f (by simp),h.eb.fr f (by simp),h.qb.fr f (by simp),h.cb.fr f (by simp),h.fb.fr f (by simp),h.nb.fr f (by simp),h.cr.fr f (by simp),h.fr.fr f (by simp),h.hr.fr f (by simp),h.n,h.nc,h.nf,h.nh⟩
theorem LnS.open_ (h:LnS κ0 w0 g U0 T κ w s V U p cv fv hv ch) (y:Int):LnS κ0 w0 g U0 T κ (w.setCell ⟨T.bn,0,none⟩ (.int .i64 y)) s V U { p with opn:=y } cv fv hv ch:=by
 have f:=frs κ w (i:=0) (u := .int .i64 y) h.nb.k
 refine ⟨h.m.fr f fun c hc e=>by subst e;exact hc,h.f.loc (jY w T.bn 0 _) (fun j e=>by injection e with e;subst e;exact h.n _ (by simp)),h.sm,h.sb.fr f (by simp),h.ob.fr f (by simp),h.eb.fr f (by simp),h.qb.fr f (by simp),h.cb.fr f (by simp),h.fb.fr f (by simp),?_,h.cr.fr f (by simp),h.fr.fr f (by simp),h.hr.fr f (by simp),h.n,h.nc,h.nf,h.nh⟩
 exact h.nb.set_ 0 (.int .i64 y)
theorem LnS.pushC (h:LnS κ0 w0 g U0 T κ w s V U p cv fv hv ch) {x:Int} {v':Value} {o:Obj} (ho:w2.ownsRow 0 3 1 v' (p.clause.length+1) (ci p.clause++[.int .i64 x])) (hg:(w.alloc o).grownBy w2 cv.ownBlock) (hat:v'.ownBlock=cv.ownBlock∨v'.ownBlock=some (w.alloc o).heap.size) :
  ∃κ2,LnS κ0 w0 g U0 T κ2 (w2.setCell ⟨T.bc,0,none⟩ v') s V U { p with clause:=p.clause++[x] } v' fv hv ch∧w2.frozen? ⟨T.bc,0,none⟩=false∧w2.cell? ⟨T.bc,0,none⟩=some cv:=by
 have f0:=Fr.alloc κ w o (fun c=>c = .tmp 7)
 obtain ⟨κ2,j1,j2⟩:=(h.cr.fr (Fr.alloc κ w o (fun _=>False)) id).app (S:=fun c=>c = .tmp 7) ho hg hat rfl
 have f1:=f0.trans j2
 have hb:=h.cb.fr f1 (by simp)
 have f2:=frs κ2 w2 (i:=0) (u:=v') hb.k
 have f:Fr κ κ2 w (w2.setCell ⟨T.bc,0,none⟩ v') (fun c=>c = .tmp 7∨c = .tmp 4):=(f1.mono fun _ e => .inl e).trans (f2.mono fun _ e => .inr e)
 refine ⟨κ2,⟨h.m.fr f (fun c hc e=>by rcases e with rfl|rfl<;>exact hc),?_,h.sm,h.sb.fr f (by simp),h.ob.fr f (by simp),h.eb.fr f (by simp),h.qb.fr f (by simp),?_,h.fb.fr f (by simp),h.nb.fr f (by simp),?_,h.fr.fr f (by simp),h.hr.fr f (by simp),h.n,fun j hj => ?_,h.nf,h.nh⟩,hb.frozen 0,hb.cell 0⟩
 ·have fl:Fr κ0 κ w0 w2 aO:=(h.f.trans (Fr.alloc κ w o aO)).loc hg h.nc
  have fl2:Fr κ0 κ2 w0 w2 aO:=fl.recol fun j hj=>j2.ext j (zZ hj (qA h.f.size (by simp)))
  exact fl2.loc (jY w2 T.bc 0 v') (fun j e=>by injection e with e;subst e;exact h.n _ (by simp))
 ·exact hb.set_ 0 v'
 ·have:=j1.fr f2 (by simp)
  rw [cE,zJ]
  exact this
 ·rcases hat with e|e
  ·exact h.nc j (by rw [←e];exact hj)
  ·rw [e] at hj;injection hj with hj;have:=h.f.size;simp at hj;omega
theorem LnS.pushF (h:LnS κ0 w0 g U0 T κ w s V U p cv fv hv ch) {x:Int} {v':Value} {o:Obj} (ho:w2.ownsRow 0 3 1 v' (p.fixed.length+1) (ci p.fixed++[.int .i64 x])) (hg:(w.alloc o).grownBy w2 fv.ownBlock) (hat:v'.ownBlock=fv.ownBlock∨v'.ownBlock=some (w.alloc o).heap.size) :
  ∃κ2,LnS κ0 w0 g U0 T κ2 (w2.setCell ⟨T.bf,0,none⟩ v') s V U { p with fixed:=p.fixed++[x] } cv v' hv ch∧w2.frozen? ⟨T.bf,0,none⟩=false∧w2.cell? ⟨T.bf,0,none⟩=some fv:=by
 have f0:=Fr.alloc κ w o (fun c=>c = .tmp 8)
 obtain ⟨κ2,j1,j2⟩:=(h.fr.fr (Fr.alloc κ w o (fun _=>False)) id).app (S:=fun c=>c = .tmp 8) ho hg hat rfl
 have f1:=f0.trans j2
 have hb:=h.fb.fr f1 (by simp)
 have f2:=frs κ2 w2 (i:=0) (u:=v') hb.k
 have f:Fr κ κ2 w (w2.setCell ⟨T.bf,0,none⟩ v') (fun c=>c = .tmp 8∨c = .tmp 5):=(f1.mono fun _ e => .inl e).trans (f2.mono fun _ e => .inr e)
 refine ⟨κ2,⟨h.m.fr f (fun c hc e=>by rcases e with rfl|rfl<;>exact hc),?_,h.sm,h.sb.fr f (by simp),h.ob.fr f (by simp),h.eb.fr f (by simp),h.qb.fr f (by simp),h.cb.fr f (by simp),?_,h.nb.fr f (by simp),h.cr.fr f (by simp),?_,h.hr.fr f (by simp),h.n,h.nc,fun j hj => ?_,h.nh⟩,hb.frozen 0,hb.cell 0⟩
 ·have fl:Fr κ0 κ w0 w2 aO:=(h.f.trans (Fr.alloc κ w o aO)).loc hg h.nf
  have fl2:Fr κ0 κ2 w0 w2 aO:=fl.recol fun j hj=>j2.ext j (zZ hj (qA h.f.size (by simp)))
  exact fl2.loc (jY w2 T.bf 0 v') (fun j e=>by injection e with e;subst e;exact h.n _ (by simp))
 ·exact hb.set_ 0 v'
 ·have:=j1.fr f2 (by simp)
  rw [cE,zJ]
  exact this
 ·rcases hat with e|e
  ·exact h.nf j (by rw [←e];exact hj)
  ·rw [e] at hj;injection hj with hj;have:=h.f.size;simp at hj;omega
theorem LnS.link (h:LnS κ0 w0 g U0 T κ w s V U p cv fv hv ch) {q:Nat × Int} {v':Value} {o:Obj} (ho:w2.ownsRow 0 115 2 v' (ch.length+1) (aC ch++[.int .i64 (q.1:Int), .int .i64 q.2])) (hg:(w.alloc o).grownBy w2 hv.ownBlock) (hat:v'.ownBlock=hv.ownBlock∨v'.ownBlock=some (w.alloc o).heap.size) :
  ∃κ2,(LnS κ0 w0 g U0 T κ2 (w2.setCell ⟨T.bo,7,none⟩ v') s V U p cv fv v' (ch++[q]))∧w2.frozen? ⟨T.bo,7,none⟩=false∧w2.cell? ⟨T.bo,7,none⟩=some hv∧Fr κ κ2 w w2 (fun c=>c = .tmp 9):=by
 have f0:=Fr.alloc κ w o (fun c=>c = .tmp 9)
 obtain ⟨κ2,j1,j2⟩:=(h.hr.fr (Fr.alloc κ w o (fun _=>False)) id).app (S:=fun c=>c = .tmp 9) ho hg hat rfl
 have f1:=f0.trans j2
 have hb:=h.ob.fr f1 (by simp)
 have f2:=frs κ2 w2 (i:=7) (u:=v') hb.k
 have f:Fr κ κ2 w (w2.setCell ⟨T.bo,7,none⟩ v') (fun c=>c = .tmp 9∨c = .tmp 1):=(f1.mono fun _ e => .inl e).trans (f2.mono fun _ e => .inr e)
 refine ⟨κ2,⟨h.m.fr f (fun c hc e=>by rcases e with rfl|rfl<;>exact hc),?_,h.sm,h.sb.fr f (by simp),?_,h.eb.fr f (by simp),h.qb.fr f (by simp),h.cb.fr f (by simp),h.fb.fr f (by simp),h.nb.fr f (by simp),h.cr.fr f (by simp),h.fr.fr f (by simp),?_,h.n,h.nc,h.nf,fun j hj => ?_⟩,hb.frozen 7,hb.cell 7,f1⟩
 ·have fl:Fr κ0 κ w0 w2 aO:=(h.f.trans (Fr.alloc κ w o aO)).loc hg h.nh
  have fl2:Fr κ0 κ2 w0 w2 aO:=fl.recol fun j hj=>j2.ext j (zZ hj (qA h.f.size (by simp)))
  exact fl2.loc (jY w2 T.bo 7 v') (fun j e=>by injection e with e;subst e;exact h.n _ (by simp))
 ·exact hb.set_ 7 v'
 ·have:=j1.fr f2 (by simp)
  rw [lks_app,zJ]
  exact this
 ·rcases hat with e|e
  ·exact h.nh j (by rw [←e];exact hj)
  ·rw [e] at hj;injection hj with hj;have:=h.f.size;simp at hj;omega
theorem LnS.call (h:LnS κ0 w0 g U0 T κ w s V U p cv fv hv ch) (hm:SolM κ2 w2 g s2 V2 U2) (hf:Fr κ κ2 w w2 bJ) (hs:U.same U2) (ha:s2.acty=p.acty) (hl:s2.e.val.length=s.e.val.length):LnS κ0 w0 g U0 T κ2 w2 s2 V2 U2 p cv fv hv ch:=by
 have f:=hf
 refine ⟨?_,h.f.trans (hf.mono fun c hc=>uniC_lrn hc),h.sm.trans hs,h.sb.fr f id,h.ob.fr f id,?_,h.qb.fr f id,h.cb.fr f id,h.fb.fr f id,h.nb.fr f id,h.cr.fr f id,h.fr.fr f id,h.hr.fr f id,h.n,h.nc,h.nf,h.nh⟩
 ·rw [←ha];exact hm
 ·rw [hl];exact h.eb.fr f id
end
end Go.Proofs.Yticieifacalocaa
