/- DSol SolWat -/
import Derived.Test.YticieifacalocaaTSH24
namespace Go.Proofs.Yticieifacalocaa
open Go.RowKit
structure DSS (w:World) (v:Value) (n bl gx bx gr br:Nat) (κ:Kap) (wr:World) (xs bs:List Int):Prop where
 f:Fr (fun _=>none) κ w wr (fun _=>False)
 l:HB κ wr (.tmp 0) bl 26 #[v]
 x:HB κ wr (.tmp 1) gx 3 (ci xs).toArray
 xb:HB κ wr (.tmp 2) bx 33 #[.slice (some ⟨gx,0,none⟩) n n]
 r:HB κ wr (.tmp 3) gr 3 (ci bs).toArray
 rb:HB κ wr (.tmp 4) br 33 #[.slice (some ⟨gr,0,none⟩) n n]
 nx:w.heap.size≤gx
 nr:w.heap.size≤gr
section
variable {w:World} {v:Value} {n bl gx bx gr br:Nat} {κ κ':Kap} {wr w':World} {xs bs:List Int} {S:Col→Prop}
theorem DSS.below (h:DSS w v n bl gx bx gr br κ wr xs bs):Below w.heap.size w wr:=h.f.below (Nat.le_refl _) fun _ _=>rfl
theorem DSS.keep (h:DSS w v n bl gx bx gr br κ wr xs bs) (hb:Below wr.heap.size wr w'):DSS w v n bl gx bx gr br κ w' xs bs :=
 have f:=Fr.kept κ hb (fun _=>False)
 ⟨h.f.trans f,h.l.fr f id,h.x.fr f id,h.xb.fr f id,h.r.fr f id,h.rb.fr f id,h.nx,h.nr⟩
theorem DSS.drewN (h:DSS w v n bl gx bx gr br κ wr xs bs) (k:Nat):DSS w v n bl gx bx gr br κ (wr.drewN k) xs bs:=h.keep (bO (zR _ _) k)
theorem DSS.setX (h:DSS w v n bl gx bx gr br κ wr xs bs) (i:Nat) (y:Int):DSS w v n bl gx bx gr br κ (wr.setCell ⟨gx,i,none⟩ (.int .i64 y)) (xs.set i y) bs:=by
 have f:=frs κ wr (i:=i) (u := .int .i64 y) h.x.k
 refine ⟨h.f.loc (jY wr gx i _) (fun j e=>by injection e with e;subst e;exact h.nx),h.l.fr f (by simp),?_,h.xb.fr f (by simp),h.r.fr f (by simp),h.rb.fr f (by simp),h.nx,h.nr⟩
 have:=h.x.set_ i (.int .i64 y)
 rw [wQ,←bN] at this
 exact this
theorem DSS.setR (h:DSS w v n bl gx bx gr br κ wr xs bs) (i:Nat) (y:Int):DSS w v n bl gx bx gr br κ (wr.setCell ⟨gr,i,none⟩ (.int .i64 y)) xs (bs.set i y):=by
 have f:=frs κ wr (i:=i) (u := .int .i64 y) h.r.k
 refine ⟨h.f.loc (jY wr gr i _) (fun j e=>by injection e with e;subst e;exact h.nr),h.l.fr f (by simp),h.x.fr f (by simp),h.xb.fr f (by simp),?_,h.rb.fr f (by simp),h.nx,h.nr⟩
 have:=h.r.set_ i (.int .i64 y)
 rw [wQ,←bN] at this
 exact this
end
def LowR (w:World) (v:Value) (n bl gx bx gr br:Nat) (xs bs:List Int) (d:Diff) (k:Nat) (b:Bool) (en:Ending) (w':World):Prop :=
 en = .returned (.bool b)∧∃κ',(if b=true then DSS w v n bl gx bx gr br κ' w' (xs.set d.x.toNat (gi xs d.y+d.c)) (bs.set d.x.toNat k) else DSS w v n bl gx bx gr br κ' w' xs bs)
set_option maxRecDepth 100000 in
set_option maxHeartbeats 4000000 in
theorem dlow_any {w:World} {v:Value} {n bl gx bx gr br:Nat} {κ:Kap} {wr:World} {xs bs:List Int} {l:List Diff} {d:Diff} {k:Nat} {b:Bool} (h:DSS w v n bl gx bx gr br κ wr xs bs) (hv:Diffs w v l) (hd:l[k]? = some d) (hf:fitD n d) (hne:d.x≠d.y) (hc : -3000000≤d.c∧d.c≤3000000)
  (hx:xs.length=n) (hr:bs.length=n) (hq : -2000000000000≤gi xs d.y∧gi xs d.y≤0) (hb:b=decide (gi xs d.y+d.c<gi xs d.x)) :
  Calls Try.prog 87 #[.int .i64 (k:Int), .pointer (some ⟨bl,0,none⟩), .pointer (some ⟨bx,0,none⟩), .pointer (some ⟨br,0,none⟩)] wr (LowR w v n bl gx bx gr br xs bs d k b):=by
 have hkl:k<l.length:=(zG.1 hd).1
 have hvv:=hv.keep h.below
 obtain ⟨A,cp,rfl,h1,h2,h3,hrd⟩:=hvv
 obtain ⟨b1,o1,rfl,hb1,hx1,hy1,hz1⟩:=hrd.diff hd
 unfold maxLen at h2
 obtain ⟨x0,x1,y0,y1⟩:=hf
 obtain ⟨X,hX⟩:∃X:Nat,d.x=X:=⟨d.x.toNat,by omega⟩
 obtain ⟨Y,hY⟩:∃Y:Nat,d.y=Y:=⟨d.y.toNat,by omega⟩
 have ql:=h.l.cell 0
 simp only [zA,zB] at ql
 have hgx:xs[X]? = some (gi xs d.x):=by rw [hX];exact eG (by omega)
 have hgy:xs[Y]? = some (gi xs d.y):=by rw [hY];exact eG (by omega)
 have HDX:Hid (d.x.toNat=X):=Lib.hid (by omega)
 generalize gi xs d.x=p at *
 generalize hqq:gi xs d.y=q at *
 obtain ⟨dx,dy,dc⟩:=d
 simp only at hX hY hqq hx1 hy1 hz1 hc hne hb HDX x0 x1 y0 y1
 subst hX hY
 have hmk:=Fr.make κ wr (.cells #[.int .i64 (X:Int), .int .i64 (Y:Int), .int .i64 dc] 50) (.tmp 5) (fun _=>False)
 have HS5:Hid (DSS w (.slice (some ⟨b1,o1,none⟩) l.length cp) n bl gx bx gr br (kset κ wr.heap.size (.tmp 5)) (wr.alloc (.cells #[.int .i64 (X:Int), .int .i64 (Y:Int), .int .i64 dc] 50)) xs bs):=Lib.hid ⟨h.f.trans hmk,h.l.fr hmk id,h.x.fr hmk id,h.xb.fr hmk id,h.r.fr hmk id,h.rb.fr hmk id,h.nx,h.nr⟩
 have HBD:=Lib.hid (HB.new κ wr (.tmp 5) #[.int .i64 (X:Int), .int .i64 (Y:Int), .int .i64 dc] 50)
 have B1:=Lib.hid (Blk.new wr 50 #[.int .i64 (X:Int), .int .i64 (Y:Int), .int .i64 dc])
 have yk:(k:Int)<(l.length:Int):=by omega
 have X1:(X:Int)<(n:Int):=by omega
 have Y1:(Y:Int)<(n:Int):=by omega
 have sc:=qN (q+dc) (by omega)
 have HXY:Hid (X≠Y):=Lib.hid (by omega)
 have HGS:=Lib.hid (And.intro hgx hgy)
 have HQQ:=Lib.hid hqq
 have HLEN:=Lib.hid (And.intro hx hr)
 have HBB:=Lib.hid hb
 clear hqq h hmk hv hd hrd h1 h3 hgx hgy x0 x1 y0 y1 hkl hx hr hb1 hne hb
 go_enter Try.func87,Try.ntmps87
 go_upto_region 2 with fail
 clear ql hx1 hy1 hz1
 generalize wr.alloc (.cells #[.int .i64 (X:Int), .int .i64 (Y:Int), .int .i64 dc] 50)=W2 at *
 generalize kset κ wr.heap.size (.tmp 5)=κ at *
 generalize wr.heap.size=bd at *
 have r0:=B1.out.cell 0
 have r1:=B1.out.cell 1
 have r2:=B1.out.cell 2
 have e1:=HS5.out.x.cell X
 have e2:=HS5.out.x.cell Y
 have q1:=HS5.out.xb.cell 0
 rw [zA,wU HGS.out.1] at e1
 rw [zA,wU HGS.out.2] at e2
 simp only [zA,zB,zC] at r0 r1 r2 q1
 by_cases hgt:q+dc<p
 ·have dg:decide (p≤q+dc)=false:=by simp;omega
  have hbt:b=true:=by rw [HBB.out];simpa using hgt
  subst hbt
  go_region_held3 (fun W=>W.cell? ⟨bx,0,none⟩=some (.slice (some ⟨gx,0,none⟩) n n)∧W.cell? ⟨bd,0,none⟩=some (.int .i64 (X:Int))∧W.cell? ⟨bd,1,none⟩=some (.int .i64 (Y:Int))∧W.cell? ⟨bd,2,none⟩=some (.int .i64 dc)∧W.cell? ⟨gx,X,none⟩=some (.int .i64 p)∧W.cell? ⟨gx,Y,none⟩=some (.int .i64 q)) (first|assumption|exact ⟨q1,r0,r1,r2,e1,e2⟩) (fail)
  have HS6:Hid (DSS w (.slice (some ⟨b1,o1,none⟩) l.length cp) n bl gx bx gr br κ W2.drew xs bs):=Lib.hid (HS5.out.drewN 1)
  have HD6:=Lib.hid (HBD.out.fr (Fr.drew κ W2 (fun _=>False)) id)
  clear r0 r1 r2 e1 e2 q1 HS5 HBD
  generalize W2.drew=W3 at *
  have HS7:Hid (DSS w (.slice (some ⟨b1,o1,none⟩) l.length cp) n bl gx bx gr br κ W3.drew xs bs):=Lib.hid (HS6.out.drewN 1)
  have HD7:=Lib.hid (HD6.out.fr (Fr.drew κ W3 (fun _=>False)) id)
  have s0:W3.drew.cell? ⟨bx,0,none⟩=some (.slice (some ⟨gx,0,none⟩) n n)∧W3.drew.cell? ⟨bd,0,none⟩=some (.int .i64 (X:Int))∧W3.drew.cell? ⟨bd,1,none⟩=some (.int .i64 (Y:Int))∧W3.drew.cell? ⟨bd,2,none⟩=some (.int .i64 dc)∧W3.drew.cell? ⟨gx,Y,none⟩=some (.int .i64 q):=by
   have e2:=HS7.out.x.cell Y
   rw [zA,wU HGS.out.2] at e2
   exact ⟨HS7.out.xb.cell 0,HD7.out.cell 0,HD7.out.cell 1,HD7.out.cell 2,e2⟩
  have e1:=HS7.out.x.cell X
  rw [zA,wU HGS.out.1] at e1
  have z1:=HS7.out.x.frozen X
  have HS8:=Lib.hid (HS7.out.setX X (q+dc))
  have HD8:=Lib.hid (HD7.out.fr (frs κ W3.drew (i:=X) (u := .int .i64 (q+dc)) HS7.out.x.k) (by simp))
  have s1:(W3.drew.setCell ⟨gx,X,none⟩ (.int .i64 (q+dc))).cell? ⟨bx,0,none⟩=some (.slice (some ⟨gx,0,none⟩) n n)∧(W3.drew.setCell ⟨gx,X,none⟩ (.int .i64 (q+dc))).cell? ⟨bd,0,none⟩=some (.int .i64 (X:Int))∧(W3.drew.setCell ⟨gx,X,none⟩ (.int .i64 (q+dc))).cell? ⟨bd,1,none⟩=some (.int .i64 (Y:Int))∧(W3.drew.setCell ⟨gx,X,none⟩ (.int .i64 (q+dc))).cell? ⟨bd,2,none⟩=some (.int .i64 dc)∧(W3.drew.setCell ⟨gx,X,none⟩ (.int .i64 (q+dc))).cell? ⟨gx,Y,none⟩=some (.int .i64 q):=by
   have e2:=HS8.out.x.cell Y
   rw [zA,wU (x:=q) (by rw [yQ HXY.out];exact HGS.out.2)] at e2
   exact ⟨HS8.out.xb.cell 0,HD8.out.cell 0,HD8.out.cell 1,HD8.out.cell 2,e2⟩
  clear HS6 HD6 HS7 HD7
  go_upto_region 4 with fail
  go_region_held3 (fun W=>W.cell? ⟨bx,0,none⟩=some (.slice (some ⟨gx,0,none⟩) n n)∧W.cell? ⟨bd,0,none⟩=some (.int .i64 (X:Int))∧W.cell? ⟨bd,1,none⟩=some (.int .i64 (Y:Int))∧W.cell? ⟨bd,2,none⟩=some (.int .i64 dc)∧W.cell? ⟨gx,Y,none⟩=some (.int .i64 q)) (first|exact s0|exact s1) (fail)
  clear s0 s1 e1 z1
  have HS8':Hid (DSS w (.slice (some ⟨b1,o1,none⟩) l.length cp) n bl gx bx gr br κ (W3.setCell ⟨gx,X,none⟩ (.int .i64 (q+dc))).drew (xs.set X (q+dc)) bs):=HS8
  have HD8':Hid (HB κ (W3.setCell ⟨gx,X,none⟩ (.int .i64 (q+dc))).drew (.tmp 5) bd 50 #[.int .i64 (X:Int), .int .i64 (Y:Int), .int .i64 dc]):=HD8
  clear HS8 HD8
  generalize (W3.setCell ⟨gx,X,none⟩ (.int .i64 (q+dc))).drew=W5 at *
  have d0:=HD8'.out.cell 0
  have qr:=HS8'.out.rb.cell 0
  simp only [zA,zB] at d0 qr
  obtain ⟨y0,hy0⟩:∃y0,bs[X]? = some y0:=⟨_,List.getElem?_eq_getElem (by rw [HLEN.out.2];omega)⟩
  have e3:=HS8'.out.r.cell X
  rw [zA,wU hy0] at e3
  have z3:=HS8'.out.r.frozen X
  have HS9:=Lib.hid (HS8'.out.setR X (k:Int))
  clear HS8' HD8' hy0
  go_wp2_with fail
  go_ret
  refine ⟨rfl,κ,?_⟩
  rw [if_pos rfl,HDX.out]
  simp only [HQQ.out]
  exact HS9.out
 ·have dg:decide (p≤q+dc)=true:=by simp;omega
  have hbt:b=false:=by rw [HBB.out];simpa using hgt
  subst hbt
  go_region_held3 (fun W=>W.cell? ⟨bx,0,none⟩=some (.slice (some ⟨gx,0,none⟩) n n)∧W.cell? ⟨bd,0,none⟩=some (.int .i64 (X:Int))∧W.cell? ⟨bd,1,none⟩=some (.int .i64 (Y:Int))∧W.cell? ⟨bd,2,none⟩=some (.int .i64 dc)∧W.cell? ⟨gx,X,none⟩=some (.int .i64 p)∧W.cell? ⟨gx,Y,none⟩=some (.int .i64 q)) (first|assumption|exact ⟨q1,r0,r1,r2,e1,e2⟩) (fail)
  have HS6:Hid (DSS w (.slice (some ⟨b1,o1,none⟩) l.length cp) n bl gx bx gr br κ W2.drew xs bs):=Lib.hid (HS5.out.drewN 1)
  clear r0 r1 r2 e1 e2 q1 HS5
  go_wp2_with fail
  go_ret
  refine ⟨rfl,κ,?_⟩
  rw [if_neg (by simp)]
  exact HS6.out
section
variable {κ κ':Kap} {w w':World} {g:Nat} {t:TypeId} {rest:List Value} {x:Int} {e:Eng} {V:EV}
def pC (x:Int):Col→Prop
 | .wat=>True
 | .wt l=>l≠x
 | _=>False
theorem eS {x:Int} {s:Col} (h:pC x s):wK s:=by cases s<;>first|trivial|exact h
theorem EngM.watchA (h:EngM κ w g t rest x e V) {l:Int} (hl:l≠x) (hl0:l≠0) {c:Nat} {v':Value} {o:Obj} (ho:w'.ownsRow 0 3 1 v' ((e.wat l).length+1) (cn (e.wat l)++[.int .i64 (c:Int)])) (hg:(w.alloc o).grownBy w' (V.mv l).ownBlock) (hat:v'.ownBlock=(V.mv l).ownBlock∨v'.ownBlock=some (w.alloc o).heap.size) :
  ∃κ',MapC κ' w' V.bm e.val.length V.mv∧HB κ' w' .slv g t (V.cells e.val.length e.hd++rest).toArray ∧
   (∀d u,V.us[d]? = some u→Hold κ' w' (.cl d) 3 1 u (e.cl d).length (ci (e.cl d))) ∧
   ∀w2,MapC κ' w2 V.bm e.val.length (updV V.mv l v')→w'.grownBy w2 (some V.bm)→EngM κ' w2 g t rest x (e.watch l c) { V with mv:=updV V.mv l v' }∧Fr κ κ' w w2 (pC x):=by
 have h1:=h.alloc o
 obtain ⟨κ',k1,k2⟩:=(h1.wt l hl hl0).app (S:=fun s=>s = .wt l) ho hg hat rfl
 refine ⟨κ',h1.wat.fr k2 (by simp),h1.blk.fr k2 (by simp),fun d u hd=>(h1.cl d u hd).fr k2 (by simp),fun w2 hm hg2 => ?_⟩
 have hk:κ' V.bm=some .wat:=hm.k
 have f2:Fr κ' κ' w' w2 (fun s=>s = .wat):=Fr.grown κ' hg2 hk rfl
 have f:Fr κ κ' (w.alloc o) w2 (fun s=>s = .wt l∨s = .wat):=(k2.mono fun s hs => .inl hs).trans (f2.mono fun s hs => .inr hs)
 refine ⟨⟨h1.blk.fr f (by simp),h1.cls.fr f (by simp),fun c u hu=>(h1.cl c u hu).fr f (by simp),h1.inp.fr f (by simp),h1.val.fr f (by simp),h1.rsn.fr f (by simp),h1.lvl.fr f (by simp),h1.rl,h1.ll,h1.tr.fr f (by simp),h1.st.fr f (by simp),hm,fun j hj hj0 => ?_,h1.B,h1.v3⟩,(Fr.alloc κ w o _).trans (f.mono fun s hs=>by rcases hs with rfl|rfl;exact hl;trivial)⟩
 show Hold κ' w2 (.wt j) 3 1 (updV V.mv l v' j) (upd e.wat l (e.wat l++[c]) j).length (cn (upd e.wat l (e.wat l++[c]) j))
 unfold updV upd
 by_cases e1:j=l
 ·subst e1
  rw [if_pos rfl,if_pos rfl,nR,zJ]
  exact k1.fr f2 (by simp)
 ·rw [if_neg e1,if_neg e1]
  exact (h1.wt j hj hj0).fr f (by simp [e1])
end
def wkE (e:Eng) (c k:Nat):Eng:=if k=0 then e else if k=1 then e.watch ((e.cl c).getD 0 0) c else e.attach c
section
variable {κ:Kap} {w:World} {g:Nat} {t:TypeId} {rest:List Value} {x:Int} {e:Eng} {V:EV}
def AttR (κ:Kap) (w:World) (g:Nat) (t:TypeId) (rest:List Value) (x:Int) (e:Eng) (c:Nat) (us:List Value) (k:Nat) (wr:World):Prop :=
 ∃V' κ',EngM κ' wr g t rest x (wkE e c k) V'∧V'.us=us∧Fr κ κ' w wr (pC x)
set_option maxRecDepth 100000 in
set_option maxHeartbeats 4000000 in
theorem iU (h:EngM κ w g t rest x e V) {c:Nat} (hc:c<e.cls.length) (h2:2≤(e.cl c).length) (hcl:c≤1099511627776) (hl0:litB e.val.length ((e.cl c).getD 0 0)=true) (hl1:litB e.val.length ((e.cl c).getD 1 0)=true) (hx0:(e.cl c).getD 0 0≠x) (hx1:(e.cl c).getD 1 0≠x)
  (hw0:(e.wat ((e.cl c).getD 0 0)).length<LIM) (hw1:(e.wat ((e.cl c).getD 1 0)).length<LIM) (hne:(e.cl c).getD 0 0≠(e.cl c).getD 1 0) :
  Calls Try.prog 58 #[.pointer (some ⟨g,0,none⟩), .int .i64 (c:Int)] w (fP κ w g t rest x (pC x) (.tuple #[]) (e.attach c)):=by
 obtain ⟨iI,hiI,hzI0,hzI1,hzI2⟩:=qD wV
 have hcu:V.us.length=e.cls.length:=by have:=h.cls.o.1;omega
 obtain ⟨u,hu⟩:∃u,V.us[c]? = some u:=⟨_,List.getElem?_eq_getElem (by omega)⟩
 obtain ⟨gc,capc,rfl,kc,gcl,hcap,hcm,hcc,hcz⟩:=(h.cl c u hu).open_ (by omega)
 obtain ⟨gs,caps,hvs,ks,gsl,hscap,hsm,hsc,hsz⟩:=h.cls.open_ (by omega)
 have q0:=h.cellE (i:=0) rfl
 have qc:=hsc c _ hu
 rw [hvs] at q0
 have HU:=Lib.hid hu
 have H0:=Lib.hid h
 have y1:(c:Int)<(e.cls.length:Int):=by omega
 have y2:2≤capc:=by omega
 unfold maxLen at hcm hsm
 clear hcc hsc hu hsz hcz hvs
 go_enter Try.func58,Try.ntmps58
 go_wp2_with fail
 go_loopw [15] (fun i wr=>∃k:Nat,k≤2∧i = .int .i64 k∧AttR κ w g t rest x e c V.us k wr) (fun i _=>2-(intOf i).toNat)
 case atStart=>exact ⟨0,by omega,rfl,V,κ,H0.out,rfl,Fr.refl _ _ _⟩
 case round =>
  obtain ⟨k,hk,rfl,V1,κ1,hE,hus,hF⟩:=hrel
  have HF:=Lib.hid hF
  have HUS:=Lib.hid hus
  have HU1:Hid (V1.us[c]? = some (.slice (some ⟨gc,0,none⟩) (e.cl c).length capc)):=by refine Lib.hid ?_;rw [hus];exact HU.out
  clear hus
  by_cases hlt:k<2
  ·obtain ⟨l,hle⟩:∃l,l=(e.cl c).getD k 0:=⟨_,rfl⟩
   have HLX:Hid (litB e.val.length l=true∧l≠x∧((wkE e c k).wat l).length<LIM∧wkE e c (k+1)=(wkE e c k).watch l c):=by
    refine Lib.hid ?_
    subst hle
    match k,hlt with
    | 0,_=>exact ⟨hl0,hx0,hw0,rfl⟩
    | 1,_ =>
     refine ⟨hl1,hx1,?_,rfl⟩
     show (upd e.wat _ _ _).length<LIM
     unfold upd
     rw [if_neg (fun e1=>hne e1.symm)];exact hw1
   have hvl:(wkE e c k).val.length=e.val.length:=by unfold wkE;split;rfl;split<;>rfl
   have hcl2:(wkE e c k).cl c=e.cl c:=by unfold wkE;split;rfl;split<;>rfl
   have hcw:=(hE.cl c _ HU1.out).open_ (by rw [hcl2];omega)
   obtain ⟨g1,cap1,e1, -, -, -, -,hcc, -⟩:=hcw
   rw [hcl2] at e1 hcc
   injection e1 with e1 _ _
   injection e1 with e1
   injection e1 with e1 _ _
   subst e1
   have qk:=hcc k _ (wU (getD_at (show k<(e.cl c).length by omega)))
   rw [←hle] at qk
   have hli:=wZ (B:=e.val.length) (by have:=hE.B;rw [hvl] at this;omega) HLX.out.1
   obtain ⟨Al,cl,hml, -, -⟩:=(hE.wt l HLX.out.2.1 (wN HLX.out.1).1).shape
   have HMR:=Lib.hid hml
   have HL0:Hid ((Instr.lookup 80 (.map (some V1.bm)) (.int .i64 l) false).run Try.prog wr.drew = .ok (.slice Al ((wkE e c k).wat l).length cl) wr.drew):=by
    refine Lib.hid ?_
    have:=(hE.drewN 1).wat.look (k:=l) (by omega) (by omega)
    rw [←hml];exact this
   have HL1:Hid ((Instr.lookup 80 (.map (some V1.bm)) (.int .i64 l) false).run Try.prog (wr.alloc (.cells #[.int .i64 (c:Int)] 3)).drew = .ok (.slice Al ((wkE e c k).wat l).length cl) (wr.alloc (.cells #[.int .i64 (c:Int)] 3)).drew):=by
    refine Lib.hid ?_
    have:=((hE.alloc (.cells #[.int .i64 (c:Int)] 3)).drewN 1).wat.look (k:=l) (by omega) (by omega)
    rw [←hml];exact this
   have HOW:Hid ((wr.alloc (.cells #[.int .i64 (c:Int)] 3)).drew.ownsRow 0 3 1 (.slice Al ((wkE e c k).wat l).length cl) ((wkE e c k).wat l).length (cn ((wkE e c k).wat l))):=by
    refine Lib.hid ?_
    have:=(((hE.alloc (.cells #[.int .i64 (c:Int)] 3)).drewN 1).wt l HLX.out.2.1 (wN HLX.out.1).1).o
    rw [←hml];exact this
   have q2:=hE.cellE (i:=2) rfl
   have q2a:=(hE.alloc (.cells #[.int .i64 (c:Int)] 3)).cellE (i:=2) rfl
   have HE:=Lib.hid hE
   have HBL:Hid (litB (wkE e c k).val.length l=true∧(wkE e c k).val.length≤1048576):=Lib.hid ⟨by rw [hvl];exact HLX.out.1,by have:=hE.B;omega⟩
   have H63:Hid (((wkE e c k).wat l).length+1≤maxLen):=by refine Lib.hid ?_;have:=HLX.out.2.2.1;unfold LIM at this;unfold maxLen;omega
   have HBY:Hid ((((wkE e c k).wat l).length+1) * 8≤140737488355328):=by refine Lib.hid ?_;have:=HLX.out.2.2.1;unfold LIM at this;omega
   have HO:Hid (∀u∈([.int .i64 (c:Int)]:List Value),u.oneCell'=true):=Lib.hid (by intro u hu;simp at hu;subst hu;rfl)
   have y3:(k:Int)<2:=by omega
   clear hE hF hcc hvl hcl2 hml hle
   go_upto_region 3 with fail
   clear qk
   have hl0:=HL0.out
   have hl1:=HL1.out
   go_region_law (refine jZ rfl (.tmp 29) (.tmp 31) 33 rfl 0 3 iI (.int .i64 0) 1 8 Try.underlying33 hiI hzI0 hzI1 hzI2 rfl (by decide) (.slice Al ((wkE e c k).wat l).length cl) ((wkE e c k).wat l).length (cn ((wkE e c k).wat l)) (by simp [Act.eval]) HOW.out ⟨wr.heap.size,0,none⟩ 1 1 [.int .i64 (c:Int)] (by simp [Act.eval]) rfl (wR wr _ _) HO.out H63.out HBY.out (zQ _) ?_;intro v' w2 hown hg hat;obtain ⟨A',c',hv', -, -, -⟩:=wB hown;subst hv';obtain ⟨κ2,hm2,hb2, -,hkey⟩:=HE.out.watchA HLX.out.2.1 (wN HLX.out.1).1 (c:=c) hown (show (wr.alloc _).grownBy w2 _ from (by rw [HMR.out];exact ⟨hg.os,hg.tape,hg.output,hg.size,hg.block⟩)) (by rw [HMR.out];exact hat);obtain ⟨w3,hr3,hm3,hg3⟩:=hm2.store (v := .slice A' (((wkE e c k).wat l).length+1) c') HBL.out.1 HBL.out.2;have HFIN:=Lib.hid (hkey w3 hm3 hg3);have c2:=hb2.cell 2;simp only [EV.cells,qT,xL,zA,zC,zB] at c2;clear hown hg hat hm2 hb2 hkey hm3 hg3)
   all_goals
    clear hl0 hl1 q2 q2a
    go_wp2_with fail
    go_roundw
    case rel=>exact ⟨k+1,by omega,by go_num,{ V1 with mv:=updV V1.mv l (.slice A' (((wkE e c k).wat l).length+1) c') },κ2,by rw [HLX.out.2.2.2];exact HFIN.out.1,HUS.out,HF.out.trans HFIN.out.2⟩
    case measure=>simp [intOf];omega
  ·have HE:=Lib.hid hE
   have hk2:k=2:=by omega
   subst hk2
   clear hE hF
   go_wp2_with fail
   go_end0
   exact ⟨rfl,κ1,V1,HE.out,HF.out⟩
end
end Go.Proofs.Yticieifacalocaa
