/- SolEProp SolLdW SolLdA SolReg -/
import Derived.Test.YticieifacalocaaTSH27
import Derived.Deep.LoopGhost
namespace Go.Proofs.Yticieifacalocaa
open Go.RowKit
theorem fC {lit:Int}:∀(list kept:List Nat) (e:Eng) {e2:Eng} {r:Int},gR lit e list kept=some (e2,r)→e2.cls.length=e.cls.length∧e2.val.length=e.val.length∧e2.inp=e.inp∧e2.st=e.st∧e2.hd=e.hd:=by
 intro list
 induction list with
 | nil =>
  intro kept e e2 r h
  rw [gR] at h
  injection h with h
  injection h with h1 h2
  subst h1
  exact ⟨rfl,rfl,rfl,rfl,rfl⟩
 | cons c rest ih =>
  intro kept e e2 r h
  rw [gR] at h
  split at h
  ·have hs:(if (e.cl c).getD 0 0=lit then e.swap c 0 1 else e).cls.length=e.cls.length∧(if (e.cl c).getD 0 0=lit then e.swap c 0 1 else e).val.length=e.val.length∧(if (e.cl c).getD 0 0=lit then e.swap c 0 1 else e).inp=e.inp∧(if (e.cl c).getD 0 0=lit then e.swap c 0 1 else e).st=e.st∧(if (e.cl c).getD 0 0=lit then e.swap c 0 1 else e).hd=e.hd:=by
    split
    ·exact ⟨zX,rfl,rfl,rfl,rfl⟩
    ·exact ⟨rfl,rfl,rfl,rfl,rfl⟩
   generalize (if (e.cl c).getD 0 0=lit then e.swap c 0 1 else e)=e1 at h hs
   obtain ⟨s1,s2,s3,s4,s5⟩:=hs
   simp only at h
   split at h
   ·split at h
    ·split at h
     ·obtain ⟨a1,a2,a3,a4,a5⟩:=ih _ _ h
      exact ⟨by rw [a1,←s1];exact zX,by rw [a2,←s2];rfl,by rw [a3,←s3];rfl,by rw [a4,←s4];rfl,by rw [a5,←s5];rfl⟩
     ·cases h
    ·split at h
     ·split at h
      ·obtain ⟨a1,a2,a3,a4,a5⟩:=ih _ _ h
       exact ⟨by rw [a1,←s1];rfl,by rw [a2,←s2];exact zX,by rw [a3,←s3];rfl,by rw [a4,←s4];rfl,by rw [a5,←s5];rfl⟩
      ·cases h
     ·injection h with h
      injection h with h1 h2
      subst h1
      exact ⟨s1,s2,s3,s4,s5⟩
   ·obtain ⟨a1,a2,a3,a4,a5⟩:=ih _ _ h
    exact ⟨a1.trans s1,a2.trans s2,a3.trans s3,a4.trans s4,a5.trans s5⟩
  ·cases h
section
variable {κ:Kap} {w:World} {g:Nat} {t:TypeId} {rest:List Value} {x:Int} {e:Eng} {V:EV}
set_option maxRecDepth 100000 in
set_option maxHeartbeats 4000000 in
theorem lD {rs:List Value} (h:EngM κ w g t (.nilFunc::rs) 0 e V) (hcl:e.cls.length≤LIM) {n:Nat} {e2:Eng} {r:Int} (hp:aQ n e=some (e2,r)) :
  Calls Try.prog 39 #[.pointer (some ⟨g,0,none⟩)] w (fP κ w g t (.nilFunc::rs) 0 wK (.int .i64 r) e2):=by
 have HS0:Hid (EngM κ w g t (.nilFunc::rs) 0 e V∧Fr κ κ w w wK∧e.cls.length≤LIM∧aQ n e=some (e2,r)):=Lib.hid ⟨h,Fr.refl _ _ _,hcl,hp⟩
 clear h hcl hp
 have hnf:∀W,(Go.binOp .eql 81 .nilFunc .nilFunc).run Try.prog W = .ok (.bool true) W:=fun W=>by kernel_rfl
 go_enter Try.func39,Try.ntmps39
 go_wp2_with fail
 go_loopg [2] n (fun k vr2 wr=>∃(κ1:Kap) (e1:Eng) (V1:EV),Hid (EngM κ1 wr g t (.nilFunc::rs) 0 e1 V1∧Fr κ κ1 w wr wK∧e1.cls.length≤LIM∧aQ k e1=some (e2,r)))
 case atStart=>exact ⟨κ,e,V,HS0⟩
 case round =>
  clear HS0
  obtain ⟨κ1,e1,V1,HS⟩:=hrel
  have q8:=HS.out.1.cellE (i:=8) rfl
  have q6:=HS.out.1.cellE (i:=6) rfl
  obtain ⟨At,ct,hvt,hct,hcm⟩:=HS.out.1.tr.shape
  unfold maxLen at hcm
  rw [hvt] at q6
  cases hlit:e1.tr[e1.hd]? with
  | none =>
   have hge:e1.tr.length≤e1.hd:=by rw [xS] at hlit;exact hlit
   have hres:e2=e1∧r = -1:=by
    have h9:=HS.out.2.2.2
    cases gk with
    | zero=>cases h9
    | succ m =>
     rw [aQ,hlit] at h9
     injection h9 with h9
     injection h9 with h1 h2
     exact ⟨h1.symm,h2.symm⟩
   have HRES:=Lib.hid hres
   have yl:¬e1.hd<e1.tr.length:=by omega
   clear hlit hres hvt hge
   go_wp2_with fail
   go_region
   go_wp2_with fail
   go_ret
   exact ⟨by rw [HRES.out.2];rfl,κ1,V1,by rw [HRES.out.1];exact HS.out.1.drewN 1,HS.out.2.1.trans (Fr.drew _ _ _)⟩
  | some lit =>
   have hlt:e1.hd<e1.tr.length:=(zG.1 hlit).1
   have hres:∃m e3 c,gk=m+1∧litB e1.val.length lit=true∧gR (-lit) { e1 with hd:=e1.hd+1 } (e1.wat (-lit)) []=some (e3,c)∧((0≤c∧e2=e3∧r=c)∨(c<0∧aQ m e3=some (e2,r))):=by
    have h9:=HS.out.2.2.2
    cases gk with
    | zero=>cases h9
    | succ m =>
     rw [aQ,hlit] at h9
     simp only at h9
     split at h9
     ·rename_i hl
      split at h9
      ·cases h9
      ·rename_i e3 c hf
       refine ⟨m,e3,c,rfl,hl,hf,?_⟩
       split at h9
       ·rename_i hc
        injection h9 with h9
        injection h9 with h1 h2
        exact .inl ⟨hc,h1.symm,h2.symm⟩
       ·rename_i hc
        exact .inr ⟨by omega,h9⟩
     ·cases h9
   obtain ⟨m,e3,c,hgk,hl,hf,hcase⟩:=hres
   obtain ⟨l0,l1⟩:=wN hl
   have hB:=HS.out.1.B
   have hi:=wZ (by omega) hl
   have hl':litB e1.val.length (-lit)=true:=by
    have:vr (-lit)=vr lit:=by unfold vr;omega
    exact decide_eq_true ⟨by omega,by rw [this];exact l1⟩
   have hA:∃ga,At=some ⟨ga,0,none⟩∧wr.cell? ⟨ga,e1.hd,none⟩=some (.int .i64 lit)∧wr.frozen? ⟨ga,e1.hd,none⟩=false:=by
    obtain ⟨g2,cap2,e1', -, -, -, -,hcc2,hz⟩:=HS.out.1.tr.open_ (by omega)
    rw [hvt] at e1'
    injection e1' with e1' _ _
    exact ⟨g2,e1',hcc2 _ _ (wU hlit),hz _⟩
   obtain ⟨ga,rfl,qt,zt⟩:=hA
   have yl:decide ((e1.hd:Int)<(e1.tr.length:Int))=true:=by simp;omega
   have y2:(e1.hd:Int)<(e1.tr.length:Int):=by omega
   have yn:IntKind.i64.wrap (-lit) = -lit:=by rw [qS];omega
   have yh:IntKind.i64.wrap ((e1.hd:Int)+1)=((e1.hd+1:Nat):Int):=by rw [qS];omega
   have z8:=HS.out.1.frz 8
   have HL:=Lib.hid (And.intro hl' hf)
   have HGK:=Lib.hid (And.intro hgk hcase)
   have HVT:=Lib.hid hvt
   have HX:=Lib.hid (And.intro l0 (And.intro l1 hi))
   clear hlit hl hl' hf hgk hcase hvt l0 l1 hi hB
   go_wp2_with fail
   go_region
   go_wp2_with fail
   go_region
   go_upto_region 4 with fail
   have HE2:Hid (EngM κ1 (wr.setCell ⟨g,8,none⟩ (.int .i64 ((e1.hd:Int)+1))).drew.drew g t (.nilFunc::rs) 0 { e1 with hd:=e1.hd+1 } V1):=Lib.hid ((HS.out.1.setHd (e1.hd+1)).drewN 2)
   have HF2:Hid (Fr κ κ1 w (wr.setCell ⟨g,8,none⟩ (.int .i64 ((e1.hd:Int)+1))).drew.drew wK) :=
    Lib.hid (HS.out.2.1.trans (((frs κ1 wr HS.out.1.blk.k).mono fun s hs=>by subst hs;trivial).trans ((Fr.drew κ1 _ wK).trans (Fr.drew κ1 _ wK))))
   have HC2:=Lib.hid HS.out.2.2.1
   generalize (wr.setCell ⟨g,8,none⟩ (.int .i64 ((e1.hd:Int)+1))).drew.drew=W2 at *
   clear HS q8 q6 qt zt z8 yl y2 yh
   have HV:=Lib.hid (fS HE2.out HL.out.1 HC2.out HL.out.2)
   go_wp2_with fail
   refine (HV.out).mono ?_
   rintro en W ⟨rfl,κ3,V3,hE3,hF3⟩
   have HE3:=Lib.hid hE3
   have HF3:Hid (Fr κ κ3 w W wK):=Lib.hid (HF2.out.trans hF3)
   have hlen:=fC _ _ _ HL.out.2
   have HC3:Hid (e3.cls.length≤LIM):=by refine Lib.hid ?_;rw [hlen.1];exact HC2.out
   clear hE3 hF3 hlen HV HE2 HF2 HC2
   have q9:=HE3.out.cellR (i:=0) (u := .nilFunc) rfl
   by_cases hc:0≤c
   ·have hr:e2=e3∧r=c:=by
     rcases HGK.out.2 with h0|h0
     ·exact ⟨h0.2.1,h0.2.2⟩
     ·omega
    have HR:=Lib.hid hr
    clear hr
    go_wp2_with fail
    go_ret
    exact ⟨by rw [HR.out.2];rfl,κ3,V3,by rw [HR.out.1];exact HE3.out,HF3.out⟩
   ·have hr:aQ m e3=some (e2,r):=by
     rcases HGK.out.2 with h0|h0
     ·omega
     ·exact h0.2
    have HR:=Lib.hid hr
    clear hr
    go_wp2_with fail
    go_roundg m
    case measure=>have:=HGK.out.1;omega
    case rel=>exact ⟨κ3,e3,V3,Lib.hid ⟨HE3.out,HF3.out,HC3.out,HR.out⟩⟩
end
theorem norm_up2 {xs l:List Int} (h:wJ xs=some l) (h2:2≤l.length):l.getD 0 0≠l.getD 1 0:=by
 have hs:=gD xs
 rw [h] at hs
 match l,hs,h2 with
 | a::b::r,hs,_ =>
  have:=hs.1
  unfold Up at this
  rw [yX] at this
  have:=this.1 b (by simp)
  intro e
  simp at e
  subst e
  omega
structure Ld (k:Nat) (e:Eng):Prop where
 c:e.cls.length≤k
 i:e.inp.length≤k
 t:e.tr.length≤k
 w:∀l,(e.wat l).length≤2 * k
theorem Ld.skip {k:Nat} {e:Eng} (h:Ld k e):Ld (k+1) e:=⟨by have:=h.c;omega,by have:=h.i;omega,by have:=h.t;omega,fun l=>by have:=h.w l;omega⟩
theorem Ld.one {k:Nat} {e:Eng} (h:Ld k e) (cl:List Int) (i:Nat):Ld (k+1) { e with cls:=e.cls++[cl],inp:=e.inp++[i] } :=
 ⟨by have:=h.c;simp;omega,by have:=h.i;simp;omega,by have:=h.t;simp;omega,fun l=>by have:=h.w l;simp;omega⟩
theorem Ld.asg {k:Nat} {e:Eng} (h:Ld k e) (cl:List Int) (i:Nat) (l r:Int):Ld (k+1) (({ e with cls:=e.cls++[cl],inp:=e.inp++[i] }:Eng).assign l r) :=
 ⟨by have:=h.c;simp [Eng.assign];omega,by have:=h.i;simp [Eng.assign];omega,by have:=h.t;simp [Eng.assign];omega,fun l=>by have:=h.w l;simp [Eng.assign];omega⟩
theorem mT (e:Eng) (l m:Int) (c:Nat):((e.watch l c).wat m).length≤(e.wat m).length+1:=by
 unfold Eng.watch upd
 simp only
 split
 ·rename_i h;subst h;simp
 ·omega
theorem Ld.att {k:Nat} {e:Eng} (h:Ld k e) (cl:List Int) (i:Nat) (c:Nat):Ld (k+1) (({ e with cls:=e.cls++[cl],inp:=e.inp++[i] }:Eng).attach c) :=
 ⟨by have:=h.c;simp [Eng.attach,Eng.watch];omega,by have:=h.i;simp [Eng.attach,Eng.watch];omega,by have:=h.t;simp [Eng.attach,Eng.watch];omega,fun l=>by
  have:=h.w l
  unfold Eng.attach
  have h1:=mT (({ e with cls:=e.cls++[cl],inp:=e.inp++[i] }:Eng).watch ((({ e with cls:=e.cls++[cl],inp:=e.inp++[i] }:Eng).cl c).getD 0 0) c) ((({ e with cls:=e.cls++[cl],inp:=e.inp++[i] }:Eng).cl c).getD 1 0) l c
  have h2:=mT ({ e with cls:=e.cls++[cl],inp:=e.inp++[i] }:Eng) ((({ e with cls:=e.cls++[cl],inp:=e.inp++[i] }:Eng).cl c).getD 0 0) l c
  simp only at h2
  omega⟩
theorem pO {k:Nat} {g cl:List Int} {gs:List (List Int)} {e1 e2:Eng} {r:Int} (h:gM wJ k (g::gs) e1=some (e2,r)) (hn:wJ g=some cl) (eN:Eng) (hN:eN={ e1 with cls:=e1.cls++[cl],inp:=e1.inp++[k] }) :
  cl.all (litB e1.val.length)=true∧((cl=[]∧e2=eN∧r=(e1.cls.length:Int))∨(∃l,cl=[l]∧((tv e1.val l<0∧e2=eN∧r=(e1.cls.length:Int))∨(tv e1.val l=0∧gM wJ (k+1) gs (eN.assign l (e1.cls.length:Int))=some (e2,r))∨(0<tv e1.val l∧gM wJ (k+1) gs eN=some (e2,r)))) ∨
   (2≤cl.length∧gM wJ (k+1) gs (eN.attach e1.cls.length)=some (e2,r))):=by
 subst hN
 rw [gM,hn] at h
 simp only at h
 split at h
 case isFalse=>cases h
 rename_i hall
 refine ⟨hall,?_⟩
 match cl,h with
 | [],h =>
  injection h with h
  injection h with h1 h2
  exact .inl ⟨rfl,h1.symm,h2.symm⟩
 | [l],h =>
  refine .inr (.inl ⟨l,rfl,?_⟩)
  simp only at h
  split at h
  ·rename_i h1
   injection h with h
   injection h with h2 h3
   exact .inl ⟨h1,h2.symm,h3.symm⟩
  ·rename_i h1
   split at h
   ·rename_i h2
    exact .inr (.inl ⟨h2,h⟩)
   ·rename_i h2
    exact .inr (.inr ⟨by omega,h⟩)
 | a::b::t,h=>exact .inr (.inr ⟨by simp,h⟩)
section
variable {κ:Kap} {w0 w:World} {g:Nat} {t:TypeId} {rest:List Value} {e:Eng} {V:EV}
structure LdS (κ:Kap) (w0 w wr:World) (g:Nat) (t:TypeId) (rest:List Value) (gs:List (List Int)) (e2:Eng) (r:Int) (k:Nat) (κ1:Kap) (e1:Eng) (V1:EV):Prop where
 m:EngM κ1 wr g t rest 0 e1 V1
 f:Fr κ κ1 w wr wK
 b:Below w0.heap.size w0 wr
 l:Ld k e1
 q:gM wJ k (gs.drop k) e1=some (e2,r)
set_option maxRecDepth 100000 in
set_option maxHeartbeats 8000000 in
theorem pD (h:EngM κ w g t rest 0 e V) {ints bools:Int} {av cv:Value} {gs:List (List Int)} (hm:Mat w0 cv gs) (hgl:gs.length≤1000000) (hgx:∀xs∈gs,xs.length≤1000000) (hbl:Below w0.heap.size w0 w) (hun:∀k,k<w0.heap.size→κ k=none) (hL:Ld 0 e)
  {e2:Eng} {r:Int} (hq:gM wJ 0 gs e=some (e2,r)) :
  Calls Try.prog 37 #[.pointer (some ⟨g,0,none⟩), .agg #[.int .i64 ints, .int .i64 bools,av,cv]] w (fP κ w g t rest 0 wK (.int .i64 r) e2):=by
 obtain ⟨iI,hiI,hzI0,hzI1,hzI2⟩:=qD wV
 obtain ⟨iS,hiS,hzS0,hzS1,hzS2⟩:=qD aM
 obtain ⟨A,ca,vs,rfl,hca,hcm,hvl,hrd,hvs⟩:=hm
 have HS0:Hid (LdS κ w0 w (w.alloc (.cells #[.int .i64 ints, .int .i64 bools,av, .slice A gs.length ca] 29)) g t rest gs e2 r 0 κ e V):=Lib.hid ⟨h.alloc _,Fr.alloc _ _ _ _,hbl.alloc hbl.size _,hL,hq⟩
 have HRD:=Lib.hid (And.intro hrd (And.intro hvl hvs))
 have HGX:=Lib.hid hgx
 have HUN:=Lib.hid hun
 have HGL:=Lib.hid hgl
 have HSZ:=Lib.hid hbl.size
 have HBL:=Lib.hid hbl
 unfold maxLen at hcm
 have y0:(gs.length:Int)≤1000000:=by omega
 clear h hL hq hbl hun hgx hrd hvs hvl
 go_enter Try.func37,Try.ntmps37
 go_wp2_with fail
 go_loopw [13] (fun i wr=>∃(k:Nat) (κ1:Kap) (e1:Eng) (V1:EV),k≤gs.length∧i = .int .i64 k∧Hid (LdS κ w0 w wr g t rest gs e2 r k κ1 e1 V1)) (fun i _=>gs.length-(intOf i).toNat)
 case atStart=>exact ⟨0,κ,e,V,zQ _,rfl,HS0⟩
 case round =>
  clear HS0
  obtain ⟨k,κ1,e1,V1,hk,rfl,HS⟩:=hrel
  by_cases hlt:k<gs.length
  ·obtain ⟨xs,hxs⟩:∃xs,gs[k]? = some xs:=⟨_,List.getElem?_eq_getElem hlt⟩
   obtain ⟨b,off,A',c',rfl,hbs,qx,hxi⟩:=Mat.at_ HRD.out.1 HRD.out.2.1 HRD.out.2.2 hxs
   have qx:wr.cell? ⟨b,off+k,none⟩=some (.slice A' xs.length c'):=(HS.out.b.cell (p:=⟨b,off+k,none⟩) hbs).trans qx
   have HXI:=Lib.hid (hxi.keep HS.out.b)
   have hxl:=HGX.out xs (List.mem_of_getElem? hxs)
   have hdr:gs.drop k=xs::gs.drop (k+1):=by
    obtain ⟨h1,h2⟩:=zG.1 hxs
    rw [zT h1,h2]
   have hq:=HS.out.q
   rw [hdr] at hq
   have HQ:=Lib.hid hq
   have HXL:=Lib.hid hxl
   have HGK:=Lib.hid hlt
   have y1:(k:Int)<(gs.length:Int):=by omega
   clear hxs hxi hdr hq hxl hbs
   go_wp2_with fail
   refine (pE _ xs wr HXI.out HXL.out).mono ?_
   rintro en W ⟨v,rfl,hown,hb⟩
   cases hn:wJ xs with
   | none =>
    rw [hn] at hown
    have HB:=Lib.hid hb
    have hq:=HQ.out
    rw [gM,hn] at hq
    have HS2:Hid (LdS κ w0 w W g t rest gs e2 r (k+1) κ1 e1 V1):=Lib.hid ⟨HS.out.m.keep hb,HS.out.f.trans (Fr.kept κ1 hb wK),HS.out.b.trans (hb.mono HS.out.b.size),HS.out.l.skip,hq⟩
    clear hown hb qx HS HQ hq hn
    simp only [vE]
    go_wp2_with fail
    go_roundw
    case rel=>exact ⟨k+1,κ1,e1,V1,by omega,by go_num,HS2⟩
    case measure=>simp [intOf];omega
   | some cl =>
    rw [hn] at hown
    have HNM:=Lib.hid hn
    have HQ2:=Lib.hid HQ.out
    obtain ⟨κ2,hE,hH,hF⟩:=HS.out.m.paintCl (v:=v) (cl:=cl) e1.cls.length hb hown.1
    have HE:=Lib.hid hE
    have HH:=Lib.hid hH
    have HF:Hid (Fr κ κ2 w W wK):=Lib.hid (HS.out.f.trans (hF wK))
    have HLD:=Lib.hid HS.out.l
    have hcln:cl.length≤1000000:=qA (oO hn) HXL.out
    clear hown hb qx HS HQ hn hE hH hF HXI
    obtain ⟨Av,cv,hvv,hvc,hvm⟩:=HH.out.shape
    subst hvv
    obtain ⟨Ac,cc,hcs, -, -⟩:=HE.out.cls.shape
    have q0:=HE.out.cellE (i:=0) rfl
    rw [hcs] at q0
    have HCS:=Lib.hid hcs
    have hkl:=HLD.out.c
    have yc:e1.cls.length≤1000000:=by have:=HGL.out;have:=HGK.out;omega
    have H63:Hid (e1.cls.length+1≤maxLen):=by refine Lib.hid ?_;unfold maxLen;omega
    have HBY:Hid ((e1.cls.length+1) * 24≤140737488355328):=by refine Lib.hid ?_;omega
    have HYC:=Lib.hid yc
    have HOC:Hid (W.ownsRow 0 33 1 (.slice Ac e1.cls.length cc) e1.cls.length V1.us):=by refine Lib.hid ?_;rw [←hcs];exact HE.out.cls.o
    clear hcs hkl yc
    simp only [vF]
    unfold maxLen at hvm
    go_upto_region 7 with fail
    go_wp2_with (at_builtin;refine zW _ rfl _ _ 27 rfl 0 33 iS (.slice none 0 0) 1 24 Try.underlying27 hiS hzS0 hzS1 hzS2 rfl (by decide) _ _ _ rfl (HOC.out.alloc _) ⟨W.heap.size,0,none⟩ 1 1 [.slice Av cl.length cv] rfl rfl (wR W _ _) ?a2 H63.out HBY.out (zQ _) ?_)
    case a2=>first|rfl|(intro u hu;simp at hu;subst hu;rfl)
    intro v' w5 hown hgrow _ hat
    rw [←HCS.out] at hgrow hat
    obtain ⟨κ3,hb5,hE5,hH5,hf5⟩:=HE.out.pushCls HH.out hown hgrow (by simpa using hat)
    obtain ⟨A5,c5,hv5, -, -⟩:=wB hown
    subst hv5
    have z0:=hb5.frozen 0
    have q0b:=hb5.cell 0
    simp only [EV.cells,qT,zA,zB] at q0b
    have HE5:=Lib.hid hE5
    have HH5:=Lib.hid hH5
    have HF5:Hid (Fr κ κ3 w _ wK):=Lib.hid (HF.out.trans (hf5.mono fun s hs=>by rcases hs with rfl|rfl<;>trivial))
    clear hown hgrow hat hb5 hE5 hH5 hf5 HE HH HF q0 HCS H63 HBY HOC
    go_upto_region 8 with fail
    generalize w5.setCell ⟨g,0,none⟩ (.slice A5 (e1.cls.length+1) c5)=W6 at *
    clear q0b z0
    obtain ⟨Ai,ci',hci, -, -⟩:=HE5.out.inp.shape
    have q1:=HE5.out.cellE (i:=1) rfl
    simp only at hci q1
    rw [hci] at q1
    have HCI:=Lib.hid hci
    have hki:=HLD.out.i
    have yi:e1.inp.length≤1000000:=by have:=HGL.out;have:=HGK.out;omega
    have H63:Hid (e1.inp.length+1≤maxLen):=by refine Lib.hid ?_;unfold maxLen;omega
    have HBY:Hid ((e1.inp.length+1) * 8≤140737488355328):=by refine Lib.hid ?_;omega
    have HOI:Hid (W6.ownsRow 0 3 1 (.slice Ai e1.inp.length ci') e1.inp.length (cn e1.inp)):=by refine Lib.hid ?_;rw [←hci];exact HE5.out.inp.o
    clear hci hki yi
    go_wp2_with (at_builtin;refine zW _ rfl _ _ 33 rfl 0 3 iI (.int .i64 0) 1 8 Try.underlying33 hiI hzI0 hzI1 hzI2 rfl (by decide) _ _ _ rfl (HOI.out.alloc _) ⟨W6.heap.size,0,none⟩ 1 1 [.int .i64 (k:Int)] rfl rfl (wR W6 _ _) ?b2 H63.out HBY.out (zQ _) ?_)
    case b2=>first|rfl|(intro u hu;simp at hu;subst hu;rfl)
    intro v7 w7 hown hgrow _ hat
    rw [←HCI.out] at hgrow hat
    obtain ⟨κ4,hb7,hE7,hf7⟩:=HE5.out.pushInp hown hgrow (by simpa using hat)
    obtain ⟨A7,c7,hv7, -, -⟩:=wB hown
    subst hv7
    have z1:=hb7.frozen 1
    have q1b:=hb7.cell 1
    simp only [EV.cells,qT,zA,zC,zB] at q1b
    have HE7:=Lib.hid hE7
    have HH7:=Lib.hid (HH5.out.fr hf7 (by simp))
    have HF7:Hid (Fr κ κ4 w _ wK):=Lib.hid (HF5.out.trans (hf7.mono fun s hs=>by rcases hs with rfl|rfl<;>trivial))
    clear hown hgrow hat hb7 hE7 hf7 HE5 HH5 HF5 q1 HCI H63 HBY HOI
    go_upto_region 9 with fail
    generalize w7.setCell ⟨g,1,none⟩ (.slice A7 (e1.inp.length+1) c7)=W8 at *
    clear q1b z1
    generalize ({ ({ V1 with vc := .slice A5 (e1.cls.length+1) c5,us:=V1.us++[.slice Av cl.length cv] }:EV) with vi := .slice A7 (e1.inp.length+1) c7 }:EV)=V8 at *
    have HBL8:Hid (∀{κ5 W5},Fr κ κ5 w W5 wK→Below w0.heap.size w0 W5):=Lib.hid fun f=>HBL.out.trans (f.below HSZ.out HUN.out)
    obtain ⟨eN,heN⟩:∃eN:Eng,eN={ e1 with cls:=e1.cls++[cl],inp:=e1.inp++[k] }:=⟨_,rfl⟩
    have hE8:EngM κ4 W8 g t rest 0 eN V8:=by rw [heN];exact HE7.out
    have HE8:=Lib.hid hE8
    have HN:Hid (eN.cls.length=e1.cls.length+1∧eN.cl e1.cls.length=cl∧eN.val=e1.val∧eN.tr.length≤k∧(∀l,(eN.wat l).length≤2 * k)∧Ld (k+1) eN∧(∀l r,Ld (k+1) (eN.assign l r))∧∀c,Ld (k+1) (eN.attach c)):=by
     refine Lib.hid ?_
     subst heN
     exact ⟨by simp,by have:=cl_app e1 cl e1.cls.length;rw [if_pos rfl] at this;exact this,rfl,HLD.out.t,HLD.out.w,HLD.out.one _ _,fun l r=>HLD.out.asg _ _ _ _,fun c=>HLD.out.att _ _ _⟩
    obtain ⟨hall,hcase⟩:=pO HQ2.out HNM.out eN heN
    have HALL:=Lib.hid hall
    have HU2:=Lib.hid (fun h2=>norm_up2 HNM.out h2)
    clear hE8 heN HE7 HQ2 hall HLD
    rcases hcase with ⟨h1,h2,h3⟩|⟨l,h1,hc⟩|⟨h1,h2⟩
    ·subst h1
     have HR:=Lib.hid (And.intro h2 h3)
     clear h2 h3
     go_wp2_with fail
     go_ret
     exact ⟨by rw [HR.out.2];rfl,κ4,V8,by rw [HR.out.1];exact HE8.out,HF7.out⟩
    ·subst h1
     obtain ⟨n1,n2,n3,n4,n5,n6,n7,n8⟩:=HN.out
     have hlb:litB eN.val.length l=true:=by rw [n3];have:=HALL.out;simpa using this
     have HLB:=Lib.hid hlb
     have HN7:=Lib.hid (n7 l (e1.cls.length:Int))
     have HN6:=Lib.hid n6
     have hn4:eN.tr.length<LIM:=by have:=HGL.out;have:=HGK.out;unfold LIM;omega
     have HN4:=Lib.hid hn4
     obtain ⟨gc,capc,e0, -, -, -, -,hcc, -⟩:=HH7.out.open_ (by simp)
     injection e0 with e0 _ _
     subst e0
     have qc:=hcc 0 _ (wU (xs:=[l]) (by rfl))
     have hc':(tv eN.val l<0∧e2=eN∧r=(e1.cls.length:Int))∨(tv eN.val l=0∧gM wJ (k+1) (gs.drop (k+1)) (eN.assign l (e1.cls.length:Int))=some (e2,r))∨(0<tv eN.val l∧gM wJ (k+1) (gs.drop (k+1)) eN=some (e2,r)):=by rw [n3];exact hc
     have HT:=Lib.hid (fun d=>dN (HE8.out.drewN d) hlb)
     generalize hy:tv eN.val l=y at *
     have HCL:=Lib.hid hcc
     clear hc hlb n1 n2 n3 n4 n5 n6 n7 n8 hn4 hy hcc
     simp only [qQ] at *
     rcases hc' with ⟨h1,h2,h3⟩|⟨h1,h2⟩|⟨h1,h2⟩
     ·have HR:=Lib.hid (And.intro h2 h3)
      clear h2 h3
      go_wp2_with fail
      refine (HT.out 0).mono ?_
      rintro en W9 ⟨rfl,m,rfl⟩
      go_wp2_with fail
      go_ret
      exact ⟨by rw [HR.out.2];rfl,κ4,V8,by rw [HR.out.1];exact HE8.out.drewN m,HF7.out.trans (Fr.drewN _ _ m _)⟩
     ·subst h1
      have HR:=Lib.hid h2
      clear h2
      go_wp2_with fail
      refine (HT.out 0).mono ?_
      rintro en W9 ⟨rfl,m,rfl⟩
      go_wp2_with fail
      refine (HT.out m).mono ?_
      rintro en W10 ⟨rfl,m2,rfl⟩
      have HE10:Hid (EngM κ4 ((W8.drewN m).drewN m2) g t rest 0 eN V8):=Lib.hid ((HE8.out.drewN m).drewN m2)
      have HF10:Hid (Fr κ κ4 w ((W8.drewN m).drewN m2) wK):=Lib.hid (HF7.out.trans ((Fr.drewN _ _ m _).trans (Fr.drewN _ _ m2 _)))
      have qc:((W8.drewN m).drewN m2).cell? ⟨gc,0,none⟩=some (.int .i64 l):=qc
      generalize (W8.drewN m).drewN m2=W10 at *
      have HA:=Lib.hid (gO (r:=(e1.cls.length:Int)) HE10.out HLB.out HN4.out)
      clear HT HE8 HF7 HH7 HCL
      go_wp2_with fail
      refine HA.out.mono ?_
      rintro en W11 ⟨rfl,κ5,V5,hE,hF, -, -⟩
      have HS2:Hid (LdS κ w0 w W11 g t rest gs e2 r (k+1) κ5 _ V5):=Lib.hid ⟨hE,HF10.out.trans (hF.mono fun s hs=>gY hs),HBL8.out (HF10.out.trans (hF.mono fun s hs=>gY hs)),HN7.out,HR.out⟩
      clear hE hF HA HE10 HF10 qc
      go_wp2_with fail
      go_roundw
      case rel=>exact ⟨k+1,κ5,_,V5,by omega,by go_num,HS2⟩
      case measure=>simp [intOf];omega
     ·have HR:=Lib.hid h2
      clear h2
      go_wp2_with fail
      refine (HT.out 0).mono ?_
      rintro en W9 ⟨rfl,m,rfl⟩
      go_wp2_with fail
      refine (HT.out m).mono ?_
      rintro en W10 ⟨rfl,m2,rfl⟩
      have HS2:Hid (LdS κ w0 w ((W8.drewN m).drewN m2) g t rest gs e2 r (k+1) κ4 eN V8):=by
       have f:=HF7.out.trans ((Fr.drewN κ4 W8 m wK).trans (Fr.drewN κ4 (W8.drewN m) m2 wK))
       exact Lib.hid ⟨(HE8.out.drewN m).drewN m2,f,HBL8.out f,HN6.out,HR.out⟩
      generalize (W8.drewN m).drewN m2=W10 at *
      clear HT HE8 HF7 HH7 HCL
      go_wp2_with fail
      go_roundw
      case rel=>exact ⟨k+1,κ4,eN,V8,by omega,by go_num,HS2⟩
      case measure=>simp [intOf];omega
    ·obtain ⟨n1,n2,n3,n4,n5,n6,n7,n8⟩:=HN.out
     have hlt2:∀j,j<cl.length→litB eN.val.length (cl.getD j 0)=true:=fun j hj=>by
      rw [n3]
      have:=qH.1 HALL.out
      refine this _ ?_
      rw [List.getD_eq_getElem?_getD,List.getElem?_eq_getElem hj]
      exact xG hj
     have b5:∀l,(eN.wat l).length<LIM:=fun l=>by have:=n5 l;have:=HGL.out;have:=HGK.out;unfold LIM;omega
     have HA:=Lib.hid (iU HE8.out (c:=e1.cls.length) (by omega) (by rw [n2];exact h1) (by have:=HYC.out;omega) (by rw [n2];exact hlt2 0 (by omega)) (by rw [n2];exact hlt2 1 (by omega)) (by rw [n2];exact (wN (hlt2 0 (by omega))).1) (by rw [n2];exact (wN (hlt2 1 (by omega))).1) (b5 _) (b5 _) (by rw [n2];exact HU2.out h1))
     have HN8:=Lib.hid (n8 e1.cls.length)
     have HR:=Lib.hid h2
     clear h2 n1 n2 n3 n4 n5 n6 n7 n8 hlt2 b5 HH7 HNM HALL HU2 HN
     generalize cl.length=L at *
     have y2:¬(L:Int)=0:=by omega
     have y3:1<L:=by omega
     have y4:(1:Int)<(L:Int):=by omega
     go_wp2_with fail
     refine HA.out.mono ?_
     rintro en W11 ⟨rfl,κ5,V5,hE,hF⟩
     have HS2:Hid (LdS κ w0 w W11 g t rest gs e2 r (k+1) κ5 _ V5):=Lib.hid ⟨hE,HF7.out.trans (hF.mono fun s hs=>eS hs),HBL8.out (HF7.out.trans (hF.mono fun s hs=>eS hs)),HN8.out,HR.out⟩
     clear hE hF HA HE8 HF7
     go_wp2_with fail
     go_roundw
     case rel=>exact ⟨k+1,κ5,_,V5,by omega,by go_num,HS2⟩
     case measure=>simp [intOf];omega
  ·have hd:gs.drop k=[]:=qY (by omega)
   have hq:=HS.out.q
   rw [hd,gM] at hq
   injection hq with hq
   injection hq with h1 h2
   have HR:=Lib.hid (And.intro h1 h2)
   have y1:¬k<gs.length:=hlt
   clear hd h1 h2 hlt
   go_wp2_with fail
   go_ret
   exact ⟨by rw [←HR.out.2];rfl,κ1,V1,by rw [←HR.out.1];exact HS.out.m,HS.out.f⟩
end
theorem count_set {l:Array Bool} {i:Nat} (hi:l.getD i true=false):((l.setIfInBounds i true).toList.count false)+1=l.toList.count false:=by
 have hlt:i<l.size:=by
  rcases xW i l.size with h|h
  ·exact h
  ·simp [Array.getD,Nat.not_lt.2 h] at hi
 have hv:l.toList[i]? = some false:=by
  have:l[i]=false:=by simpa [Array.getD,hlt] using hi
  rw [List.getElem?_eq_getElem (by simpa using hlt)]
  simpa using this
 rw [uA]
 generalize l.toList=xs at *
 clear hi hlt
 induction xs generalizing i with
 | nil=>simp at hv
 | cons a r ih =>
  cases i with
  | zero =>
   simp at hv
   subst hv
   simp
  | succ i =>
   simp only [zC] at hv
   have:=ih hv
   rw [zF,List.count_cons,List.count_cons]
   omega
section
variable {P:Program} {md:Region.Mode} {ops:Array Oper} {Q:Exit→Act→World→Prop}
theorem wpAny_inv (I:Array Bool→Act→World→Prop) (step:∀l a w i,I l a w→i∈Region.ready md ops l→wpOp P ops Q i (I (l.setIfInBounds i true)) a w)
  (done:∀l a w,I l a w→Region.ready md ops l=[]→Q .normal a w):∀(fuel:Nat) (l:Array Bool) (a:Act) (w:World),I l a w→l.toList.count false≤fuel→wpAny P md ops Q fuel l a w:=by
 intro fuel
 induction fuel with
 | zero =>
  intro l a w hI hf
  have hr:Region.ready md ops l=[]:=by
   rw [kD]
   intro i hi
   have:=count_set (uL.1 hi).1
   omega
  exact ⟨hr,done l a w hI hr⟩
 | succ fuel ih =>
  intro l a w hI hf
  refine ⟨done l a w hI,fun i hi=>wpOp_mono (fun a' w' h=>ih _ a' w' h ?_) (step l a w i hI hi)⟩
  have:=count_set (uL.1 hi).1
  omega
theorem aS {id:Nat} {a:Act} {w:World} (hm:P.follows .mixedOrders=true) (I:Array Bool→Act→World→Prop) (h0:I (Array.replicate ops.size false) a w.drew)
  (step:∀l a w i,I l a w→i∈Region.ready .any ops l→wpOp P ops Q i (I (l.setIfInBounds i true)) a w)
  (done:∀l a w,I l a w→Region.ready .any ops l=[]→Q .normal a w):(Code.region id ops true).wp P Q a w :=
 wp_region_any hm (wpAny_inv I step done _ _ _ _ h0 (by simp))
theorem wH {l:Array Bool} {i:Nat} (hi:i∈Region.ready md ops l):l.getD i true=false:=(uL.1 hi).1
theorem rO {l:Array Bool} {i:Nat} (hi:i∈Region.ready md ops l):i<ops.size:=by
 obtain ⟨-,o,ho, -⟩:=uL.1 hi
 exact (yP.1 ho).1
theorem wM {l:Array Bool} {i:Nat} (hi:i∈Region.ready md ops l) (j:Nat) (h:((ops[i]?).map fun o=>o.after.any fun e=>e.on == j && Region.binds md e)=some true):l.getD j false=true:=by
 obtain ⟨-,o,ho,hd⟩:=uL.1 hi
 rw [ho] at h
 injection h with h
 rw [Array.any_eq_true] at h
 obtain ⟨k,hk,h⟩:=h
 rw [xE] at h
 have:=hd _ (Array.getElem_mem hk) h.2
 rwa [beq_iff_eq.1 h.1] at this
/-- Where none may run, an operation whose forerunners have run has run. -/
theorem wI {l : Array Bool} (h : Region.ready md ops l = []) (i : Nat) (o : Oper) (ho : ops[i]? = some o) (hd : ∀ e ∈ o.after, Region.binds md e = true → l.getD e.on false = true) : l.getD i true = true := by
  cases e : l.getD i true with
  | true => rfl
  | false => have : i ∈ Region.ready md ops l := uL.2 ⟨e, o, ho, hd⟩
             rw [h] at this; cases this
end
end Go.Proofs.Yticieifacalocaa
