/- SolLow -/
import Derived.Test.YticieifacalocaaTSH31
namespace Go.Proofs.Yticieifacalocaa
open Go.RowKit
def sW (κ:Kap) (w:World) (g:Nat) (s:Sol) (V:EV) (U:SV) (res:List Int ⊕ List Int) (en:Ending) (w':World):Prop :=
 match res with
 | .inl num=>en = .returned (.slice none 0 0)∧∃κ',SolM κ' w' g { s with num:=num } V U∧Fr κ κ' w w' lowC
 | .inr l=>∃g2 c U',en = .returned (.slice (some ⟨g2,0,none⟩) l.length c)∧0<l.length∧U.same U'∧∀col,∃κ',SolM κ' w' g s V U'∧Hold κ' w' col 3 1 (.slice (some ⟨g2,0,none⟩) l.length c) l.length (ci l)∧Fr κ κ' w w' lowC
theorem cN {ay n:Int} {b:Arc} {rest:List Arc} {num:List Int} {by_:List Arc} {wait:List Bool} {q:List Int} {r:(List Int × List Arc × List Bool × List Int) ⊕ List Arc} (h:gB ay n (b::rest) num by_ wait q=some r) :
  rJ num.length b=true∧iK (gi num n)=true∧((gi num b.x≤gi num n+b.c∧gB ay n rest num by_ wait q=some r)∨(¬gi num b.x≤gi num n+b.c∧b.x=ay∧r = .inr (by_.set b.x.toNat b)) ∨
   (¬gi num b.x≤gi num n+b.c∧b.x≠ay∧q.length<1000∧wait.getD b.x.toNat false=true∧gB ay n rest (num.set b.x.toNat (gi num n+b.c)) (by_.set b.x.toNat b) wait q=some r) ∨
   (¬gi num b.x≤gi num n+b.c∧b.x≠ay∧q.length<1000∧wait.getD b.x.toNat false=false∧gB ay n rest (num.set b.x.toNat (gi num n+b.c)) (by_.set b.x.toNat b) (wait.set b.x.toNat true) (q++[b.x])=some r)):=by
 rw [gB] at h
 split at h
 ·rename_i hc
  refine ⟨hc.1,hc.2,?_⟩
  split at h
  ·rename_i h1;exact .inl ⟨h1,h⟩
  ·rename_i h1
   split at h
   ·rename_i h2;injection h with h;exact .inr (.inl ⟨h1,h2,h.symm⟩)
   ·rename_i h2
    split at h
    ·rename_i h3
     cases hw:wait.getD b.x.toNat false with
     | true=>rw [hw] at h;simp only [uR] at h;exact .inr (.inr (.inl ⟨h1,h2,h3,rfl,h⟩))
     | false=>rw [hw] at h;simp only [xO,jR] at h;exact .inr (.inr (.inr ⟨h1,h2,h3,rfl,h⟩))
    ·cases h
 ·cases h
theorem rI {N:Nat} {a:Arc} (h:rJ N a=true):0≤a.x∧a.x<N∧0≤a.y∧a.y<N ∧ -2097152≤a.c∧a.c≤2097152:=kP h
section
variable {κ:Kap} {w:World} {g:Nat} {s:Sol} {V:EV} {U:SV}
set_option maxRecDepth 100000 in
set_option maxHeartbeats 16000000 in
theorem lower_any (h:SolM κ w g s V U) {al ac:Int} {x y:Nat} (hx:x<s.num.length) (hy:y<s.num.length) (hc1 : -2097152≤ac) (hc2:ac≤2097152) (hr:iK (gi s.num y)=true) (hN:s.num.length≤1000000)
  {fuel:Nat} {res:List Int ⊕ List Int} (hq:lowerF fuel s.arcs s.num ⟨al,x,y,ac⟩=some res) :
  Calls Try.prog 92 #[.pointer (some ⟨g,10,none⟩), .agg #[.int .i64 al, .int .i64 x, .int .i64 y, .int .i64 ac]] w (sW κ w g s V U res):=by
 have f1:=Fr.make κ w (.cells #[.int .i64 al, .int .i64 x, .int .i64 y, .int .i64 ac] 126) (.tmp 4) (fun _=>False)
 have HS1:=Lib.hid (h.fr f1 fun _ _=>id)
 have HF1:=Lib.hid (f1.mono (T:=lowC) fun _=>False.elim)
 have HA1:=Lib.hid (HB.new κ w (.tmp 4) #[.int .i64 al, .int .i64 x, .int .i64 y, .int .i64 ac] 126)
 have HZ1:Hid (w.heap.size<(w.alloc (.cells #[.int .i64 al, .int .i64 x, .int .i64 y, .int .i64 ac] 126)).heap.size):=Lib.hid (by simp)
 obtain ⟨gn,cn,hvn, -, -,hcn,hcm, -, -⟩:=h.num.open_ (by omega)
 have HVN:=Lib.hid hvn
 have HQ:=Lib.hid hq
 have hr2:=aF hr
 have mk1:=mk_arcs s.num.length hN
 have mk2:=mk_boolc s.num.length hN
 unfold maxLen at hcm
 clear h f1 hvn hq hr
 go_enter Try.func92,Try.ntmps92
 go_upto_region 1 with fail
 generalize w.alloc (.cells #[.int .i64 al, .int .i64 x, .int .i64 y, .int .i64 ac] 126)=W1 at *
 generalize kset κ w.heap.size (.tmp 4)=κ1 at *
 have q10:=HS1.out.eng.cellR (i:=1) rfl
 simp only [Nat.reduceAdd] at q10
 rw [HVN.out] at q10
 have HCL:=Lib.hid (Try.slices_Clone_int gn 0 s.num.length cn s.num W1 (Nat.le_refl _) (by omega) (fun j hj=>by
  obtain ⟨gn2,cn2,e1, -, -, -, -,hcc, -⟩:=HS1.out.num.open_ (by omega)
  rw [HVN.out] at e1
  injection e1 with e1 _ _
  injection e1 with e1
  injection e1 with e1 _ _
  subst e1
  rw [qZ]
  exact hcc j _ (wU (getD_at hj))))
 go_wp2_with fail
 refine HCL.out.mono ?_
 rintro en W2 ⟨vo,rfl,hown,hne,hb2⟩
 obtain ⟨go,co,rfl⟩:∃go co,vo = .slice (some ⟨go,0,none⟩) s.num.length co:=by
  rcases bG hown with ⟨-,h0, -⟩|h2
  ·omega
  ·exact h2
 rw [yC] at hown
 have hgo:W1.heap.size≤go:=(hown.lt go rfl).1
 have f2:∀S,Fr κ1 (kset κ1 go (.tmp 2)) W1 W2 S:=fun S=>(Fr.kept κ1 hb2 S).paint hgo _
 have HS2:=Lib.hid (HS1.out.fr (f2 fun _=>False) fun _ _=>id)
 have HA2:=Lib.hid (HA1.out.fr (f2 fun _=>False) id)
 have HF2:=Lib.hid (HF1.out.trans (f2 lowC))
 have HO2:Hid (Hold (kset κ1 go (.tmp 2)) W2 (.tmp 2) 3 1 (.slice (some ⟨go,0,none⟩) s.num.length co) s.num.length (ci s.num)):=Lib.hid ⟨nT hown (zQ _),fun k hk=>by injection hk with hk;subst hk;unfold kset;rw [if_pos rfl]⟩
 have HGO:Hid (w.heap.size≤go):=Lib.hid (by have:=HZ1.out;omega)
 clear hown hne hb2 hgo f2 HCL HS1 HA1 HF1 q10
 generalize kset κ1 go (.tmp 2)=κ2 at *
 have q10:=HS2.out.eng.cellR (i:=1) rfl
 simp only [Nat.reduceAdd] at q10
 rw [HVN.out] at q10
 go_upto_region 3 with fail
 have f3:=Fr.make κ2 W2 (.cells (acs (List.replicate s.num.length default)).toArray 126) (.tmp 0) (fun _=>False)
 have HS3:=Lib.hid (HS2.out.fr f3 fun _ _=>id)
 have HA3:=Lib.hid (HA2.out.fr f3 id)
 have HO3:=Lib.hid (HO2.out.fr f3 id)
 have HB3:=Lib.hid (HB.new κ2 W2 (.tmp 0) (acs (List.replicate s.num.length default)).toArray 126)
 have HF3:=Lib.hid (HF2.out.trans (f3.mono (T:=lowC) fun _=>False.elim))
 have HGB:Hid (w.heap.size≤W2.heap.size):=Lib.hid HF2.out.size
 clear f3 HS2 HA2 HO2 HF2 q10
 generalize W2.alloc (.cells (acs (List.replicate s.num.length default)).toArray 126)=W3 at *
 generalize kset κ2 W2.heap.size (.tmp 0)=κ3 at *
 generalize W2.heap.size=gby at *
 have q10:=HS3.out.eng.cellR (i:=1) rfl
 simp only [Nat.reduceAdd] at q10
 rw [HVN.out] at q10
 go_upto_region 4 with fail
 have f4:=Fr.make κ3 W3 (.cells (cbs (List.replicate s.num.length false)).toArray 4) (.tmp 1) (fun _=>False)
 have HS4:=Lib.hid (HS3.out.fr f4 fun _ _=>id)
 have HA4:=Lib.hid (HA3.out.fr f4 id)
 have HO4:=Lib.hid (HO3.out.fr f4 id)
 have HB4:=Lib.hid (HB3.out.fr f4 id)
 have HW4:=Lib.hid (HB.new κ3 W3 (.tmp 1) (cbs (List.replicate s.num.length false)).toArray 4)
 have HF4:=Lib.hid (HF3.out.trans (f4.mono (T:=lowC) fun _=>False.elim))
 have HGW:Hid (w.heap.size≤W3.heap.size):=Lib.hid HF3.out.size
 clear f4 HS3 HA3 HO3 HB3 HF3 q10 mk1 mk2
 generalize W3.alloc (.cells (cbs (List.replicate s.num.length false)).toArray 4)=W4 at *
 generalize kset κ3 W3.heap.size (.tmp 1)=κ4 at *
 generalize W3.heap.size=gw at *
 have q10:=HS4.out.eng.cellR (i:=1) rfl
 simp only [Nat.reduceAdd] at q10
 rw [HVN.out] at q10
 have a0:=HA4.out.cell 0
 have a1:=HA4.out.cell 1
 have a2:=HA4.out.cell 2
 have a3:=HA4.out.cell 3
 simp only [zA,zB,zC] at a0 a1 a2 a3
 obtain ⟨gn2,cn2,e1,kn, -, -, -,hcc,hzz⟩:=HS4.out.num.open_ (by omega)
 rw [HVN.out] at e1
 injection e1 with e1 _ _
 injection e1 with e1
 injection e1 with e1 _ _
 subst e1
 have ny:=hcc y _ (wU (eG hy))
 have nx:=hcc x _ (wU (eG hx))
 have zx:=hzz x
 have y1:(x:Int)<(s.num.length:Int):=by omega
 have y2:(y:Int)<(s.num.length:Int):=by omega
 have HHY:=Lib.hid (show gi s.num (y:Int)+ac=gi s.num (y:Int)+ac from rfl)
 obtain ⟨hr3,hr4⟩:=hr2
 generalize hgy:gi s.num (y:Int)=vy at *
 have HGY:=Lib.hid hgy
 have f5:Fr κ4 κ4 W4 (W4.setCell ⟨gn,x,none⟩ (.int .i64 (vy+ac))).drew (fun c=>c = .num):=(frs κ4 W4 kn).trans (Fr.drew _ _ _)
 have HS5:Hid (SolM κ4 (W4.setCell ⟨gn,x,none⟩ (.int .i64 (vy+ac))).drew g { s with num:=s.num.set x (vy+ac) } V U):=Lib.hid ((HS4.out.setNum HVN.out x (vy+ac)).drewN 1)
 have HA5:=Lib.hid (HA4.out.fr f5 (by simp))
 have HO5:=Lib.hid (HO4.out.fr f5 (by simp))
 have HB5:=Lib.hid (HB4.out.fr f5 (by simp))
 have HW5:=Lib.hid (HW4.out.fr f5 (by simp))
 have HF5:=Lib.hid (HF4.out.trans (f5.mono (T:=lowC) fun c hc=>by subst hc;trivial))
 clear hgy hcc hzz kn f5 HS4 HA4 HO4 HB4 HW4 HF4
 have yva:IntKind.i64.wrap (vy+ac)=vy+ac:=by rw [qS];omega
 go_still_tail 21,(by kernel_rfl)
 change wpList _ _ _ _ _ W4.drew
 go_upto_region 5 with fail
 clear q10 a0 a1 a2 a3 nx ny zx yva
 generalize (W4.setCell ⟨gn,x,none⟩ (.int .i64 (vy+ac))).drew=W5 at *
 have a0:=HA5.out.cell 0
 have a1:=HA5.out.cell 1
 have a2:=HA5.out.cell 2
 have a3:=HA5.out.cell 3
 simp only [zA,zB,zC] at a0 a1 a2 a3
 obtain ⟨d0,d1,d2,d3⟩:=nP (ga_at (l:=List.replicate s.num.length default) (k:=x) (by simpa using hx))
 have b0:W5.cell? ⟨gby,x * 4,none⟩=_:=(HB5.out.cell (x * 4)).trans (zA.trans d0)
 have b1:W5.cell? ⟨gby,x * 4+1,none⟩=_:=(HB5.out.cell (x * 4+1)).trans (zA.trans d1)
 have b2:W5.cell? ⟨gby,x * 4+2,none⟩=_:=(HB5.out.cell (x * 4+2)).trans (zA.trans d2)
 have b3:W5.cell? ⟨gby,x * 4+3,none⟩=_:=(HB5.out.cell (x * 4+3)).trans (zA.trans d3)
 have z0:=HB5.out.frozen (x * 4)
 have z1:=HB5.out.frozen (x * 4+1)
 have z2:=HB5.out.frozen (x * 4+2)
 have z3:=HB5.out.frozen (x * 4+3)
 have f6:Fr κ4 κ4 W5 (setArc W5 gby x ⟨al,x,y,ac⟩) (fun c=>c = .tmp 0):=Fr.setArc κ4 W5 x _ HB5.out.k rfl
 have HS6:=Lib.hid (HS5.out.fr f6 fun c hc e=>by subst e;exact hc)
 have HA6:=Lib.hid (HA5.out.fr f6 (by simp))
 have HO6:=Lib.hid (HO5.out.fr f6 (by simp))
 have HB6:=Lib.hid (HB5.out.setArc x ⟨al,x,y,ac⟩)
 have HW6:=Lib.hid (HW5.out.fr f6 (by simp))
 have HF6:=Lib.hid (HF5.out.loc (eP W5 gby x ⟨al,x,y,ac⟩) (fun k e=>by injection e with e;subst e;exact HGB.out))
 clear d0 d1 d2 d3 f6 HS5 HA5 HO5 HB5 HW5 HF5
 go_upto_region 6 with fail
 have e6:setArc W5 gby x ⟨al,x,y,ac⟩=(((W5.setCell ⟨gby,x * 4,none⟩ (.int .i64 al)).setCell ⟨gby,x * 4+1,none⟩ (.int .i64 (x:Int))).setCell ⟨gby,x * 4+2,none⟩ (.int .i64 (y:Int))).setCell ⟨gby,x * 4+3,none⟩ (.int .i64 ac):=rfl
 rw [←e6]
 clear e6 a0 a1 a2 a3 b0 b1 b2 b3 z0 z1 z2 z3
 generalize setArc W5 gby x ⟨al,x,y,ac⟩=W6 at *
 have a1:=HA6.out.cell 1
 simp only [zA,zB,zC] at a1
 go_upto_region 7 with fail
 have f7:=Fr.make κ4 W6 (.cells #[.int .i64 (x:Int)] 3) (.tmp 3) (fun _=>False)
 have HQ7:Hid (LwS κ w g s V U ⟨al,x,y,ac⟩ w.heap.size gby gw go co (kset κ4 W6.heap.size (.tmp 3)) (W6.alloc (.cells #[.int .i64 (x:Int)] 3)) (s.num.set x (vy+ac)) ((List.replicate s.num.length default).set x ⟨al,x,y,ac⟩) (List.replicate s.num.length false) W6.heap.size 0 1 1 [(x:Int)]):=by
  refine Lib.hid ⟨HS6.out.fr f7 fun _ _=>id,HA6.out.fr f7 id,HB6.out.fr f7 id,HW6.out.fr f7 id,HO6.out.fr f7 id,⟨by unfold kset;rw [if_pos rfl],HF6.out.size,⟨_,Blk.new _ _ _,by simp,fun j z hz => ?_⟩,rfl,Nat.le_refl _,by unfold maxLen;omega⟩,HF6.out.trans (f7.mono fun _=>False.elim),by simp,by simp,by simp,HGB.out,HGW.out,HGO.out⟩
  match j,hz with
  | 0,hz=>simp at hz;subst hz;rfl
 clear f7 HS6 HA6 HO6 HB6 HW6 HF6 a1
 generalize W6.alloc (.cells #[.int .i64 (x:Int)] 3)=W7 at *
 generalize kset κ4 W6.heap.size (.tmp 3)=κ7 at *
 generalize W6.heap.size=g8 at *
 have HQL:Hid (gV s.arcs ⟨al,x,y,ac⟩ fuel (s.num.set x (vy+ac)) ((List.replicate s.num.length default).set x ⟨al,x,y,ac⟩) (List.replicate s.num.length false) [(x:Int)]=some res):=by
  have:=HQ.out
  unfold lowerF at this
  simp only [Int.toNat_natCast] at this
  rw [HGY.out] at this
  exact Lib.hid this
 have y0:0<s.num.length:=by omega
 have HXY:=Lib.hid (And.intro hx hy)
 have HCC:=Lib.hid (And.intro hc1 hc2)
 have HVW:=Lib.hid HVN.out
 have HNN:=Lib.hid hN
 clear HQ HGY HHY HZ1 hr3 hr4 hc1 hc2 y1 y2 hcn hcm hN
 go_loopg [8] fuel (fun k v8 wr=>∃(κ1:Kap) (num:List Int) (by_:List Arc) (wait:List Bool) (g8 off n8 cap8:Nat) (q:List Int),v8 = .slice (some ⟨g8,off,none⟩) n8 cap8∧Hid (LwS κ w g s V U ⟨al,x,y,ac⟩ w.heap.size gby gw go co κ1 wr num by_ wait g8 off n8 cap8 q∧gV s.arcs ⟨al,x,y,ac⟩ k num by_ wait q=some res))
 case atStart=>exact ⟨κ7,_,_,_,g8,0,1,1,_,rfl,Lib.hid ⟨HQ7.out,HQL.out⟩⟩
 case round =>
  clear HQ7 HQL
  obtain ⟨κ1,num,by_,wait,g8,off,n8,cap8,q,rfl,HS⟩:=hrel
  have hll:=HS.out.2
  have hlen:=HS.out.1.qu.len
  cases gk with
  | zero=>cases hll
  | succ k =>
  cases q with
  | nil =>
   rw [gV] at hll
   injection hll with hll
   subst hll
   have hn0:n8=0:=hlen
   clear hlen
   subst hn0
   have HFIN:Hid (sW κ w g s V U (.inl num) (.returned (.slice none 0 0)) wr):=Lib.hid ⟨rfl,κ1,HS.out.1.m,HS.out.1.f⟩
   clear HS
   go_wp2_with fail
   go_ret
   exact HFIN.out
  | cons n q =>
   rw [gV] at hll
   split at hll
   ·rename_i hn
    obtain ⟨m,rfl⟩:∃m:Nat,n=m:=⟨n.toNat,by omega⟩
    have hm:m<s.num.length:=by have:=HS.out.1.nl;omega
    simp only [Int.toNat_natCast] at hll
    have HLL:=Lib.hid hll
    have qf:=HS.out.1.qu.first
    obtain ⟨hpop,hpr⟩:=HS.out.1.qu.pop
    have HS2:=Lib.hid HS.out.1.pop
    have y2:0<n8:=by rw [hlen];simp
    have hcap:=HS.out.1.qu.le
    obtain ⟨qw,zw⟩:=HS.out.1.waitAt hm
    obtain ⟨hs3,hf3⟩:=HS2.out.setWait m false
    have HS3:=Lib.hid hs3
    have y1:(m:Int)<(s.num.length:Int):=by omega
    clear hll hn hlen hpop hs3 hf3 HS HS2
    go_upto_region 9 with fail
    go_step
    go_step
    go_step
    go_step
    refine lI (P:=Try.prog) rfl 33 (.tmp 67) (.const (.int .i64 1)) rfl (by kernel_rfl) (.slice (some ⟨g8,off,none⟩) n8 cap8) (.int .i64 1) rfl rfl (hpr _) ?_
    go_upto_region 11 with fail
    generalize wr.setCell ⟨gw,m,none⟩ (.bool false)=W3 at *
    clear qw zw qf hpr
    obtain ⟨u,hu⟩:∃u,U.sa[m]? = some u:=⟨_,List.getElem?_eq_getElem (by have:=HS3.out.m.al;simp only at this;have:=HS3.out.nl;omega)⟩
    have har:=HS3.out.m.ar m u hu
    obtain ⟨Aa,ca,hua,hca,hcam⟩:=har.shape
    simp only at hua hca
    subst hua
    have qa:=HS3.out.m.arcs.cell m
    rw [zA,hu] at qa
    have q11:=HS3.out.m.eng.cellR (i:=2) rfl
    simp only [Nat.reduceAdd] at q11
    rw [HS3.out.nl] at q11
    have HU:=Lib.hid hu
    cases hla:gB (y:Int) (m:Int) (s.arcs.getD m []) num by_ (wait.set m false) q with
    | none=>have:=HLL.out;rw [hla] at this;cases this
    | some r =>
    have HR:Hid ((∀num2 by2 wait2 q2,r = .inl (num2,by2,wait2,q2)→gV s.arcs ⟨al,x,y,ac⟩ k num2 by2 wait2 q2=some res)∧∀by2,r = .inr by2→((aP by2 (x:Int) 1000 (y:Int)).map fun l=>(.inr (l++[al]):List Int ⊕ List Int))=some res):=by
     refine Lib.hid ?_
     have:=HLL.out
     rw [hla] at this
     constructor
     ·rintro n2 b2 w2 q2 rfl;exact this
     ·rintro b2 rfl;exact this
    have HI0:Hid (LwS κ w g s V U ⟨al,x,y,ac⟩ w.heap.size gby gw go co κ1 W3 num by_ (wait.set m false) g8 (popO off cap8) (n8-1) (cap8-1) q∧gB (y:Int) (m:Int) ((s.arcs.getD m []).drop 0) num by_ (wait.set m false) q=some r):=Lib.hid ⟨HS3.out,hla⟩
    generalize hL:s.arcs.getD m []=L at *
    have HL:=Lib.hid hL
    have HM:=Lib.hid hm
    unfold maxLen at hcam
    clear hla HLL HS3 har hu hm hL
    go_upto_region 12 with fail
    clear q11 qa y2 hcap
    go_loopw [8,80] (fun v8 i wr=>∃(j:Nat) (κ2:Kap) (num2:List Int) (by2:List Arc) (wait2:List Bool) (g9 off9 n9 cap9:Nat) (q2:List Int),j≤L.length∧i = .int .i64 j∧v8 = .slice (some ⟨g9,off9,none⟩) n9 cap9∧Hid (LwS κ w g s V U ⟨al,x,y,ac⟩ w.heap.size gby gw go co κ2 wr num2 by2 wait2 g9 off9 n9 cap9 q2∧gB (y:Int) (m:Int) (L.drop j) num2 by2 wait2 q2=some r)) (fun _ i _=>L.length-(intOf i).toNat)
    case atStart=>exact ⟨0,κ1,num,by_,wait.set m false,g8,popO off cap8,n8-1,cap8-1,q,zQ _,rfl,rfl,HI0⟩
    case round =>
     clear HI0
     obtain ⟨j,κ2,num2,by2,wait2,g9,off9,n9,cap9,q2,hj,rfl,rfl,HS⟩:=hrel
     by_cases hlt:j<L.length
     ·obtain ⟨b,hb⟩:∃b,L[j]? = some b:=⟨_,List.getElem?_eq_getElem hlt⟩
      have hdr:L.drop j=b::L.drop (j+1):=by
       obtain ⟨h1,h2⟩:=zG.1 hb
       rw [zT h1,h2]
      have hla:=HS.out.2
      rw [hdr] at hla
      obtain ⟨hab,hin,hcase⟩:=cN hla
      obtain ⟨bl,bx,bY,bc⟩:=b
      obtain ⟨b1,b2,b3,b4,b5,b6⟩:=rI hab
      rw [HS.out.1.nl] at b2 b4
      simp only at b1 b2 b3 b4 b5 b6 hcase
      obtain ⟨bxn,rfl⟩:∃n:Nat,bx=n:=⟨bx.toNat,by omega⟩
      obtain ⟨bYn,rfl⟩:∃n:Nat,bY=n:=⟨bY.toNat,by omega⟩
      simp only [Int.toNat_natCast] at hcase
      have har:=HS.out.1.m.ar m _ HU.out
      simp only [HL.out] at har
      obtain ⟨gar,car,e1, -, -, -, -,hcc, -⟩:=har.open_ (by omega)
      injection e1 with e1 _ e2
      subst e1
      obtain ⟨d0,d1,d2,d3⟩:=nP hb
      have p0:=hcc _ _ d0
      have p1:=hcc _ _ d1
      have p2:=hcc _ _ d2
      have p3:=hcc _ _ d3
      simp only at p0 p1 p2 p3
      have y1:(j:Int)<(L.length:Int):=by omega
      have HCS:=Lib.hid hcase
      obtain ⟨hs4,hx4⟩:=HS.out.1.box #[.int .i64 bl, .int .i64 (bxn:Int), .int .i64 (bYn:Int), .int .i64 bc] 126
      have HS4:=Lib.hid hs4
      have HX4:=Lib.hid hx4
      have hbx:bxn<s.num.length:=by omega
      have HJ:=Lib.hid (And.intro hj hlt)
      obtain ⟨i1,i2⟩:=aF hin
      clear hs4 hx4 hla hab hin hcase hdr hb har hcc d0 d1 d2 d3 HS b1 b2 b3 b4 hj hlt e2
      go_upto_region 14 with fail
      clear p0 p1 p2 p3 y1
      generalize wr.alloc (.cells #[.int .i64 bl, .int .i64 (bxn:Int), .int .i64 (bYn:Int), .int .i64 bc] 126)=W4 at *
      generalize kset κ2 wr.heap.size (.tmp 5)=κ4 at *
      generalize wr.heap.size=gbb at *
      have x0:=HX4.out.cell 0
      have x1:=HX4.out.cell 1
      have x2:=HX4.out.cell 2
      have x3:=HX4.out.cell 3
      simp only [zA,zB,zC] at x0 x1 x2 x3
      obtain ⟨gn3,cn3,e3,hnum⟩:=HS4.out.numB y0
      rw [HVW.out] at e3
      injection e3 with e3 _ e4
      injection e3 with e3
      injection e3 with e3 _ _
      subst e3
      have nm:=(hnum m HM.out).1
      have nb:=(hnum bxn hbx).1
      have zb:=(hnum bxn hbx).2
      have q10:=HS4.out.m.eng.cellR (i:=1) rfl
      simp only [Nat.reduceAdd] at q10
      rw [HVW.out] at q10
      generalize gi num2 (m:Int)=vm at *
      generalize gi num2 (bxn:Int)=vb at *
      have ym:(m:Int)<(s.num.length:Int):=by have:=HM.out;omega
      have yb:(bxn:Int)<(s.num.length:Int):=by omega
      have p10:W4.drew.cell? ⟨g,10,none⟩=some (.slice (some ⟨gn,0,none⟩) s.num.length cn):=q10
      have pm:W4.drew.cell? ⟨gn,m,none⟩=some (.int .i64 vm):=nm
      have pb:W4.drew.cell? ⟨gn,bxn,none⟩=some (.int .i64 vb):=nb
      have px1:W4.drew.cell? ⟨gbb,1,none⟩=some (.int .i64 (bxn:Int)):=x1
      have HS5:Hid (LwS κ w g s V U ⟨al,x,y,ac⟩ w.heap.size gby gw go co κ4 W4.drew.drew num2 by2 wait2 g9 off9 n9 cap9 q2):=Lib.hid (HS4.out.drewN 2)
      have HX5:=Lib.hid (HX4.out.fr ((Fr.drew κ4 W4 (fun _=>False)).trans (Fr.drew κ4 _ _)) id)
      clear hnum e4 zb nb x0 x1 x2 HS4 HX4
      have yw:IntKind.i64.wrap (vm+bc)=vm+bc:=by rw [qS];omega
      have hle2:(vb≤vm+bc)∨¬(vb≤vm+bc):=jP _
      go_region_held3 (fun W'=>W'.cell? ⟨g,10,none⟩=some (.slice (some ⟨gn,0,none⟩) s.num.length cn)∧W'.cell? ⟨gn,m,none⟩=some (.int .i64 vm)∧W'.cell? ⟨gbb,3,none⟩=some (.int .i64 bc)) (first|exact ⟨q10,nm,x3⟩|exact q10|exact nm|exact x3) (fail)
      clear q10 nm x3
      go_upto_region 15 with fail
      generalize W4.drew=W5 at *
      go_region_held3 (fun W'=>W'.cell? ⟨g,10,none⟩=some (.slice (some ⟨gn,0,none⟩) s.num.length cn)∧W'.cell? ⟨gn,bxn,none⟩=some (.int .i64 vb)∧W'.cell? ⟨gbb,1,none⟩=some (.int .i64 (bxn:Int))) (first|exact ⟨p10,pb,px1⟩|exact p10|exact pb|exact px1) (fail)
      clear p10 pm pb px1
      generalize W5.drew=W6 at *
      clear yw
      rcases hle2 with hle|hle
      ·have hla:gB (y:Int) (m:Int) (L.drop (j+1)) num2 by2 wait2 q2=some r:=by
        rcases HCS.out with h|h|h|h
        ·exact h.2
        ·exact absurd hle h.1
        ·exact absurd hle h.1
        ·exact absurd hle h.1
       have HN:=Lib.hid (And.intro HS5.out hla)
       obtain ⟨hj,hlt⟩:=HJ.out
       clear hla HCS HS5 HX5
       go_wp2_with fail
       go_roundw
       case rel =>
        exact ⟨j+1,κ4,num2,by2,wait2,g9,off9,n9,cap9,q2,by omega,by go_num,rfl,HN⟩
       case measure=>simp [intOf];omega
      ·have hcs:((bxn:Int)=(y:Int)∧r = .inr (by2.set bxn ⟨bl,bxn,bYn,bc⟩))∨((bxn:Int)≠(y:Int)∧q2.length<1000∧((wait2.getD bxn false=true∧gB (y:Int) (m:Int) (L.drop (j+1)) (num2.set bxn (vm+bc)) (by2.set bxn ⟨bl,bxn,bYn,bc⟩) wait2 q2=some r) ∨
         (wait2.getD bxn false=false∧gB (y:Int) (m:Int) (L.drop (j+1)) (num2.set bxn (vm+bc)) (by2.set bxn ⟨bl,bxn,bYn,bc⟩) (wait2.set bxn true) (q2++[(bxn:Int)])=some r))):=by
        rcases HCS.out with h|h|h|h
        ·exact absurd h.1 hle
        ·exact .inl h.2
        ·exact .inr ⟨h.2.1,h.2.2.1, .inl h.2.2.2⟩
        ·exact .inr ⟨h.2.1,h.2.2.1, .inr h.2.2.2⟩
       have HC2:=Lib.hid hcs
       have x0:=HX5.out.cell 0
       have x1:=HX5.out.cell 1
       have x2:=HX5.out.cell 2
       have x3:=HX5.out.cell 3
       simp only [zA,zB,zC] at x0 x1 x2 x3
       obtain ⟨z0,hbr⟩:=HS5.out.byAt bxn (bxn * 4)
       obtain ⟨v0,v1,v2,v3,r0,r1,r2,r3⟩:=hbr hbx
       have z1:=(HS5.out.byAt bxn (bxn * 4+1)).1
       have z2:=(HS5.out.byAt bxn (bxn * 4+2)).1
       have z3:=(HS5.out.byAt bxn (bxn * 4+3)).1
       obtain ⟨hs7,hf7⟩:=HS5.out.setBy bxn ⟨bl,bxn,bYn,bc⟩
       have HS7:=Lib.hid hs7
       have HX7:=Lib.hid (HX5.out.fr hf7 (by simp))
       clear hcs HCS hbr hs7 hf7 HS5 HX5
       go_upto_region 17 with fail
       have e6:setArc W6 gby bxn ⟨bl,bxn,bYn,bc⟩=(((W6.setCell ⟨gby,bxn * 4,none⟩ (.int .i64 bl)).setCell ⟨gby,bxn * 4+1,none⟩ (.int .i64 (bxn:Int))).setCell ⟨gby,bxn * 4+2,none⟩ (.int .i64 (bYn:Int))).setCell ⟨gby,bxn * 4+3,none⟩ (.int .i64 bc):=rfl
       rw [←e6]
       clear e6 x0 x1 x2 x3 r0 r1 r2 r3 z0 z1 z2 z3
       generalize setArc W6 gby bxn ⟨bl,bxn,bYn,bc⟩=W7 at *
       have x1:=HX7.out.cell 1
       have a0:=HS7.out.ab.cell 0
       have a1:=HS7.out.ab.cell 1
       have a2:=HS7.out.ab.cell 2
       have a3:=HS7.out.ab.cell 3
       simp only [Arc.cells,zA,zB,zC] at x1 a0 a1 a2 a3
       have q10:=HS7.out.m.eng.cellR (i:=1) rfl
       simp only [Nat.reduceAdd] at q10
       rw [HVW.out] at q10
       by_cases hbxy:bxn=y
       ·subst hbxy
        have hrr:r = .inr (by2.set bxn ⟨bl,bxn,bYn,bc⟩):=by
         rcases HC2.out with h|h
         ·exact h.2
         ·exact absurd rfl h.1
        have hway:=HR.out.2 _ hrr
        cases hw:aP (by2.set bxn ⟨bl,bxn,bYn,bc⟩) (x:Int) 1000 (bxn:Int) with
        | none=>rw [hw] at hway;cases hway
        | some l =>
        rw [hw] at hway
        simp only [vD] at hway
        injection hway with hway
        subst hway
        have hkgo:κ4 go=some (.tmp 2):=HS7.out.old.k go rfl
        have hm8:=HS7.out.m.rc (κ':=kset κ4 go .num) (fun c hc jj hjj=>by
         unfold kset
         split
         ·rename_i e;subst e;rw [hkgo] at hjj;injection hjj with hjj;subst hjj;exact hc.elim
         ·exact hjj)
        have ho8:Hold (kset κ4 go .num) W7 .num 3 1 (.slice (some ⟨go,0,none⟩) s.num.length co) s.num.length (ci s.num):=⟨HS7.out.old.o,fun k hk=>by injection hk with hk;subst hk;unfold kset;rw [if_pos rfl]⟩
        have HS8:Hid (SolM (kset κ4 go .num) (W7.setCell ⟨g,10,none⟩ (.slice (some ⟨go,0,none⟩) s.num.length co)) g s V { U with vn := .slice (some ⟨go,0,none⟩) s.num.length co }):=Lib.hid (hm8.putNum (num:=s.num) (by simp [HS7.out.nl]) ho8)
        have HF8:Hid (Fr κ (kset κ4 go .num) w (W7.setCell ⟨g,10,none⟩ (.slice (some ⟨go,0,none⟩) s.num.length co)) lowC):=Lib.hid ((HS7.out.f.recol (fun k hk=>by unfold kset;rw [if_neg (by have:=HS7.out.n3;omega)])).trans ((frs _ W7 hm8.eng.blk.k).mono (fun c hc=>by subst hc;trivial)))
        have fs:=frs κ4 W7 (i:=10) (u := .slice (some ⟨go,0,none⟩) s.num.length co) HS7.out.m.eng.blk.k
        have HAB8:=Lib.hid (HS7.out.ab.fr fs (by simp))
        have HBY8:=Lib.hid (HS7.out.bb.fr fs (by simp))
        have HW:=Lib.hid hw
        have hbl:(by2.set bxn ⟨bl,bxn,bYn,bc⟩).length=s.num.length:=HS7.out.bl
        have HBLN:=Lib.hid hbl
        have z10:=HS7.out.m.eng.frz 10
        clear hw hkgo hm8 ho8 fs hbl HC2 HX7 hrr
        go_upto_region 19 with fail
        clear x1 a0 a1 a2 a3 q10 z10 HS7
        generalize W7.setCell ⟨g,10,none⟩ (.slice (some ⟨go,0,none⟩) s.num.length co)=W8 at *
        generalize kset κ4 go .num=κ8 at *
        have a0:=HAB8.out.cell 0
        have a1:=HAB8.out.cell 1
        have a2:=HAB8.out.cell 2
        have a3:=HAB8.out.cell 3
        simp only [Arc.cells,zA,zB,zC] at a0 a1 a2 a3
        have hcy:=sS (a:=⟨al,x,bxn,ac⟩) HBY8.out.b HW.out
        rw [HBLN.out] at hcy
        have HCY:=Lib.hid hcy
        clear hcy
        unfold Arc.val at HCY
        go_wp2_with fail
        refine HCY.out.mono ?_
        rintro en W9 ⟨g2,c2,rfl,hown,hb9⟩
        have HFIN:Hid (sW κ w g s V U (.inr (l++[al])) (.returned (.slice (some ⟨g2,0,none⟩) (l.length+1) c2)) W9):=by
         refine Lib.hid ⟨g2,c2,{ U with vn := .slice (some ⟨go,0,none⟩) s.num.length co },by simp,by simp,⟨rfl,rfl,rfl,rfl,rfl,rfl,rfl,rfl,rfl⟩,fun col => ?_⟩
         have hg2:W8.heap.size≤g2:=(hown.lt g2 rfl).1
         have f9:∀S,Fr κ8 (kset κ8 g2 col) W8 W9 S:=fun S=>(Fr.kept κ8 hb9 S).paint hg2 _
         refine ⟨kset κ8 g2 col,HS8.out.fr (f9 fun _=>False) (fun _ _=>id),⟨?_,fun k hk=>by injection hk with hk;subst hk;unfold kset;rw [if_pos rfl]⟩,HF8.out.trans (f9 lowC)⟩
         rw [zJ,qQ]
         exact nT hown (zQ _)
        clear hown hb9 HCY HS8 HF8 HAB8 HBY8 a0 a1 a2 a3
        go_wp2_with fail
        go_ret
        exact HFIN.out
       ·obtain ⟨hql,hcd⟩:=(HC2.out.resolve_left (fun h=>hbxy (by omega))).2
        have HQLN:=Lib.hid hql
        have HCD:=Lib.hid hcd
        obtain ⟨gn4,cn4,e5,hnum⟩:=HS7.out.numB y0
        rw [HVW.out] at e5
        injection e5 with e5 _ _
        injection e5 with e5
        injection e5 with e5 _ _
        subst e5
        have nb:=(hnum bxn hbx).1
        have zb:=(hnum bxn hbx).2
        obtain ⟨hs8,hf8⟩:=HS7.out.setNum HVW.out bxn (vm+bc)
        have HS8:Hid (LwS κ w g s V U ⟨al,x,y,ac⟩ w.heap.size gby gw go co κ4 (W7.setCell ⟨gn,bxn,none⟩ (.int .i64 (vm+bc))).drew (num2.set bxn (vm+bc)) (by2.set bxn ⟨bl,bxn,bYn,bc⟩) wait2 g9 off9 n9 cap9 q2):=Lib.hid (hs8.drewN 1)
        have HX8:=Lib.hid (HX7.out.fr (hf8.trans (Fr.drew κ4 _ _)) (by simp))
        have yne:¬((bxn:Int)=(y:Int)):=by omega
        clear hql hcd HC2 hnum hs8 hf8 HS7 HX7
        go_upto_region 20 with fail
        go_still_tail 9,(by kernel_rfl)
        change wpList _ _ _ _ _ W7.drew
        go_upto_region 21 with fail
        clear x1 a0 a1 a2 a3 q10 nb zb
        generalize (W7.setCell ⟨gn,bxn,none⟩ (.int .i64 (vm+bc))).drew=W8 at *
        have x1:=HX8.out.cell 1
        simp only [zA,zB,zC] at x1
        obtain ⟨qw,zw⟩:=HS8.out.waitAt hbx
        have hcd:=HCD.out
        generalize hwb:wait2.getD bxn false=wb at *
        cases wb with
        | true =>
         have hla:=hcd.resolve_right (fun h=>by cases h.1)
         have HN:=Lib.hid (And.intro HS8.out hla.2)
         obtain ⟨hj,hlt⟩:=HJ.out
         clear hla hcd HCD HS8 HX8 hwb
         go_wp2_with fail
         go_roundw
         case rel=>exact ⟨j+1,κ4,_,_,wait2,g9,off9,n9,cap9,q2,by omega,by go_num,rfl,HN⟩
         case measure=>simp [intOf];omega
        | false =>
         have hla:=hcd.resolve_left (fun h=>by cases h.1)
         have HLA:=Lib.hid hla.2
         obtain ⟨hs9,hf9⟩:=HS8.out.setWait bxn true
         have HS9:=Lib.hid hs9
         have HX9:=Lib.hid (HX8.out.fr hf9 (by simp))
         clear hla hcd HCD hs9 hf9 HS8 HX8 hwb
         go_upto_region 23 with fail
         clear x1 qw zw
         generalize W8.setCell ⟨gw,bxn,none⟩ (.bool true)=W9 at *
         have x1:=HX9.out.cell 1
         simp only [zA,zB,zC] at x1
         obtain ⟨gA,offA,capA,κA,wA,hrun,hsA⟩:=HS9.out.push (by have:=HQLN.out;omega) (bxn:Int)
         have HRUN:=Lib.hid hrun
         have HN:=Lib.hid (And.intro hsA HLA.out)
         clear hrun hsA HS9 HX9 HLA
         obtain ⟨hj,hlt⟩:=HJ.out
         go_wp2_with (at_builtin;refine eO rfl _ _ 33 rfl _ _ rfl rfl HRUN.out ?_)
         go_wp2_with fail
         go_roundw
         case rel=>exact ⟨j+1,κA,_,_,_,gA,offA,n9+1,capA,_,by omega,by go_num,rfl,HN⟩
         case measure=>simp [intOf];omega
     ·have hjl:j=L.length:=by omega
      have hla:=HS.out.2
      rw [hjl,kV,gB] at hla
      injection hla with hla
      have HN:Hid (LwS κ w g s V U ⟨al,x,y,ac⟩ w.heap.size gby gw go co κ2 wr num2 by2 wait2 g9 off9 n9 cap9 q2∧gV s.arcs ⟨al,x,y,ac⟩ k num2 by2 wait2 q2=some res):=Lib.hid ⟨HS.out.1,HR.out.1 _ _ _ _ hla.symm⟩
      have yj:¬j<L.length:=hlt
      clear hla HS hjl hlt
      go_wp2_with fail
      go_roundg k
      case measure=>omega
      case rel=>exact ⟨κ2,num2,by2,wait2,g9,off9,n9,cap9,q2,rfl,HN⟩
   ·cases hll
end
end Go.Proofs.Yticieifacalocaa
