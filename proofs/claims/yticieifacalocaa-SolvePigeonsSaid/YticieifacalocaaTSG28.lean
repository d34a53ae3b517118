/- DSol SolStepW -/
import Derived.Test.YticieifacalocaaTSG27
namespace Go.Proofs.Yticieifacalocaa
open Go.RowKit
structure DSS (w:World) (v:Value) (n bl gx bx gr br:Nat) (κ:Kap) (wr:World) (xs bs:List Int):Prop where
 f:Fr (fun _=>none) κ w wr (fun _=>False)
 l:HB κ wr (.tmp 0) bl 26 #[v]
 x:HB κ wr (.tmp 1) gx 3 (ci xs).toArray
 xb:HB κ wr (.tmp 2) bx 33 #[.slice (some ⟨gx,0,none⟩) n n]
 r:HB κ wr (.tmp 3) gr 3 (ci bs).toArray
 rb:HB κ wr (.tmp 4) br 33 #[.slice (some ⟨gr,0,none⟩) n n]
 nx:w.heap.size≤gx
 nr:w.heap.size≤gr
section
variable {w:World} {v:Value} {n bl gx bx gr br:Nat} {κ κ':Kap} {wr w':World} {xs bs:List Int} {S:Col→Prop}
theorem DSS.below (h:DSS w v n bl gx bx gr br κ wr xs bs):Below w.heap.size w wr:=h.f.below (Nat.le_refl _) fun _ _=>rfl
theorem DSS.keep (h:DSS w v n bl gx bx gr br κ wr xs bs) (hb:Below wr.heap.size wr w'):DSS w v n bl gx bx gr br κ w' xs bs :=
 have f:=Fr.kept κ hb (fun _=>False)
 ⟨h.f.trans f,h.l.fr f id,h.x.fr f id,h.xb.fr f id,h.r.fr f id,h.rb.fr f id,h.nx,h.nr⟩
theorem DSS.drewN (h:DSS w v n bl gx bx gr br κ wr xs bs) (k:Nat):DSS w v n bl gx bx gr br κ (wr.drewN k) xs bs:=h.keep (bR (zN _ _) k)
theorem DSS.setX (h:DSS w v n bl gx bx gr br κ wr xs bs) (i:Nat) (y:Int):DSS w v n bl gx bx gr br κ (wr.setCell ⟨gx,i,none⟩ (.int .i64 y)) (xs.set i y) bs:=by
 have f:=frs κ wr (i:=i) (u := .int .i64 y) h.x.k
 refine ⟨h.f.loc (jZ wr gx i _) (fun j e=>by injection e with e;subst e;exact h.nx),h.l.fr f (by simp),?_,h.xb.fr f (by simp),h.r.fr f (by simp),h.rb.fr f (by simp),h.nx,h.nr⟩
 have:=h.x.set_ i (.int .i64 y)
 rw [wT,←bL] at this
 exact this
theorem DSS.setR (h:DSS w v n bl gx bx gr br κ wr xs bs) (i:Nat) (y:Int):DSS w v n bl gx bx gr br κ (wr.setCell ⟨gr,i,none⟩ (.int .i64 y)) xs (bs.set i y):=by
 have f:=frs κ wr (i:=i) (u := .int .i64 y) h.r.k
 refine ⟨h.f.loc (jZ wr gr i _) (fun j e=>by injection e with e;subst e;exact h.nr),h.l.fr f (by simp),h.x.fr f (by simp),h.xb.fr f (by simp),?_,h.rb.fr f (by simp),h.nx,h.nr⟩
 have:=h.r.set_ i (.int .i64 y)
 rw [wT,←bL] at this
 exact this
end
def LowR (w:World) (v:Value) (n bl gx bx gr br:Nat) (xs bs:List Int) (d:Diff) (k:Nat) (b:Bool) (en:Ending) (w':World):Prop :=
 en = .returned (.bool b)∧∃κ',(if b=true then DSS w v n bl gx bx gr br κ' w' (xs.set d.x.toNat (gi xs d.y+d.c)) (bs.set d.x.toNat k) else DSS w v n bl gx bx gr br κ' w' xs bs)
set_option maxRecDepth 100000 in
set_option maxHeartbeats 4000000 in
theorem dlow_any {w:World} {v:Value} {n bl gx bx gr br:Nat} {κ:Kap} {wr:World} {xs bs:List Int} {l:List Diff} {d:Diff} {k:Nat} {b:Bool} (h:DSS w v n bl gx bx gr br κ wr xs bs) (hv:Diffs w v l) (hd:l[k]? = some d) (hf:fitD n d) (hne:d.x≠d.y) (hc : -3000000≤d.c∧d.c≤3000000)
  (hx:xs.length=n) (hr:bs.length=n) (hq : -2000000000000≤gi xs d.y∧gi xs d.y≤0) (hb:b=decide (gi xs d.y+d.c<gi xs d.x)) :
  Calls Try.prog 87 #[.int .i64 (k:Int), .pointer (some ⟨bl,0,none⟩), .pointer (some ⟨bx,0,none⟩), .pointer (some ⟨br,0,none⟩)] wr (LowR w v n bl gx bx gr br xs bs d k b):=by
 have hkl:k<l.length:=(zG.1 hd).1
 have hvv:=hv.keep h.below
 obtain ⟨A,cp,rfl,h1,h2,h3,hrd⟩:=hvv
 obtain ⟨b1,o1,rfl,hb1,hx1,hy1,hz1⟩:=hrd.diff hd
 unfold maxLen at h2
 obtain ⟨x0,x1,y0,y1⟩:=hf
 obtain ⟨X,hX⟩:∃X:Nat,d.x=X:=⟨d.x.toNat,by omega⟩
 obtain ⟨Y,hY⟩:∃Y:Nat,d.y=Y:=⟨d.y.toNat,by omega⟩
 have ql:=h.l.cell 0
 simp only [zA,zB] at ql
 have hgx:xs[X]? = some (gi xs d.x):=by rw [hX];exact eS (by omega)
 have hgy:xs[Y]? = some (gi xs d.y):=by rw [hY];exact eS (by omega)
 have HDX:Hid (d.x.toNat=X):=Lib.hid (by omega)
 generalize gi xs d.x=p at *
 generalize hqq:gi xs d.y=q at *
 obtain ⟨dx,dy,dc⟩:=d
 simp only at hX hY hqq hx1 hy1 hz1 hc hne hb HDX x0 x1 y0 y1
 subst hX hY
 have hmk:=Fr.make κ wr (.cells #[.int .i64 (X:Int), .int .i64 (Y:Int), .int .i64 dc] 50) (.tmp 5) (fun _=>False)
 have HS5:Hid (DSS w (.slice (some ⟨b1,o1,none⟩) l.length cp) n bl gx bx gr br (kset κ wr.heap.size (.tmp 5)) (wr.alloc (.cells #[.int .i64 (X:Int), .int .i64 (Y:Int), .int .i64 dc] 50)) xs bs):=Lib.hid ⟨h.f.trans hmk,h.l.fr hmk id,h.x.fr hmk id,h.xb.fr hmk id,h.r.fr hmk id,h.rb.fr hmk id,h.nx,h.nr⟩
 have HBD:=Lib.hid (HB.new κ wr (.tmp 5) #[.int .i64 (X:Int), .int .i64 (Y:Int), .int .i64 dc] 50)
 have B1:=Lib.hid (Blk.new wr 50 #[.int .i64 (X:Int), .int .i64 (Y:Int), .int .i64 dc])
 have yk:(k:Int)<(l.length:Int):=by omega
 have X1:(X:Int)<(n:Int):=by omega
 have Y1:(Y:Int)<(n:Int):=by omega
 have sc:=yG (q+dc) (by omega)
 have HXY:Hid (X≠Y):=Lib.hid (by omega)
 have HGS:=Lib.hid (And.intro hgx hgy)
 have HQQ:=Lib.hid hqq
 have HLEN:=Lib.hid (And.intro hx hr)
 have HBB:=Lib.hid hb
 clear hqq h hmk hv hd hrd h1 h3 hgx hgy x0 x1 y0 y1 hkl hx hr hb1 hne hb
 go_enter Try.func87,Try.ntmps87
 go_upto_region 2 with fail
 clear ql hx1 hy1 hz1
 generalize wr.alloc (.cells #[.int .i64 (X:Int), .int .i64 (Y:Int), .int .i64 dc] 50)=W2 at *
 generalize kset κ wr.heap.size (.tmp 5)=κ at *
 generalize wr.heap.size=bd at *
 have r0:=B1.out.cell 0
 have r1:=B1.out.cell 1
 have r2:=B1.out.cell 2
 have e1:=HS5.out.x.cell X
 have e2:=HS5.out.x.cell Y
 have q1:=HS5.out.xb.cell 0
 rw [zA,wW HGS.out.1] at e1
 rw [zA,wW HGS.out.2] at e2
 simp only [zA,zB,zC] at r0 r1 r2 q1
 by_cases hgt:q+dc<p
 ·have dg:decide (p≤q+dc)=false:=by simp;omega
  have hbt:b=true:=by rw [HBB.out];simpa using hgt
  subst hbt
  go_region_held3 (fun W=>W.cell? ⟨bx,0,none⟩=some (.slice (some ⟨gx,0,none⟩) n n)∧W.cell? ⟨bd,0,none⟩=some (.int .i64 (X:Int))∧W.cell? ⟨bd,1,none⟩=some (.int .i64 (Y:Int))∧W.cell? ⟨bd,2,none⟩=some (.int .i64 dc)∧W.cell? ⟨gx,X,none⟩=some (.int .i64 p)∧W.cell? ⟨gx,Y,none⟩=some (.int .i64 q)) (first|assumption|exact ⟨q1,r0,r1,r2,e1,e2⟩) (fail)
  have HS6:Hid (DSS w (.slice (some ⟨b1,o1,none⟩) l.length cp) n bl gx bx gr br κ W2.drew xs bs):=Lib.hid (HS5.out.drewN 1)
  have HD6:=Lib.hid (HBD.out.fr (Fr.drew κ W2 (fun _=>False)) id)
  clear r0 r1 r2 e1 e2 q1 HS5 HBD
  generalize W2.drew=W3 at *
  have HS7:Hid (DSS w (.slice (some ⟨b1,o1,none⟩) l.length cp) n bl gx bx gr br κ W3.drew xs bs):=Lib.hid (HS6.out.drewN 1)
  have HD7:=Lib.hid (HD6.out.fr (Fr.drew κ W3 (fun _=>False)) id)
  have s0:W3.drew.cell? ⟨bx,0,none⟩=some (.slice (some ⟨gx,0,none⟩) n n)∧W3.drew.cell? ⟨bd,0,none⟩=some (.int .i64 (X:Int))∧W3.drew.cell? ⟨bd,1,none⟩=some (.int .i64 (Y:Int))∧W3.drew.cell? ⟨bd,2,none⟩=some (.int .i64 dc)∧W3.drew.cell? ⟨gx,Y,none⟩=some (.int .i64 q):=by
   have e2:=HS7.out.x.cell Y
   rw [zA,wW HGS.out.2] at e2
   exact ⟨HS7.out.xb.cell 0,HD7.out.cell 0,HD7.out.cell 1,HD7.out.cell 2,e2⟩
  have e1:=HS7.out.x.cell X
  rw [zA,wW HGS.out.1] at e1
  have z1:=HS7.out.x.frozen X
  have HS8:=Lib.hid (HS7.out.setX X (q+dc))
  have HD8:=Lib.hid (HD7.out.fr (frs κ W3.drew (i:=X) (u := .int .i64 (q+dc)) HS7.out.x.k) (by simp))
  have s1:(W3.drew.setCell ⟨gx,X,none⟩ (.int .i64 (q+dc))).cell? ⟨bx,0,none⟩=some (.slice (some ⟨gx,0,none⟩) n n)∧(W3.drew.setCell ⟨gx,X,none⟩ (.int .i64 (q+dc))).cell? ⟨bd,0,none⟩=some (.int .i64 (X:Int))∧(W3.drew.setCell ⟨gx,X,none⟩ (.int .i64 (q+dc))).cell? ⟨bd,1,none⟩=some (.int .i64 (Y:Int))∧(W3.drew.setCell ⟨gx,X,none⟩ (.int .i64 (q+dc))).cell? ⟨bd,2,none⟩=some (.int .i64 dc)∧(W3.drew.setCell ⟨gx,X,none⟩ (.int .i64 (q+dc))).cell? ⟨gx,Y,none⟩=some (.int .i64 q):=by
   have e2:=HS8.out.x.cell Y
   rw [zA,wW (x:=q) (by rw [vO HXY.out];exact HGS.out.2)] at e2
   exact ⟨HS8.out.xb.cell 0,HD8.out.cell 0,HD8.out.cell 1,HD8.out.cell 2,e2⟩
  clear HS6 HD6 HS7 HD7
  go_upto_region 4 with fail
  go_region_held3 (fun W=>W.cell? ⟨bx,0,none⟩=some (.slice (some ⟨gx,0,none⟩) n n)∧W.cell? ⟨bd,0,none⟩=some (.int .i64 (X:Int))∧W.cell? ⟨bd,1,none⟩=some (.int .i64 (Y:Int))∧W.cell? ⟨bd,2,none⟩=some (.int .i64 dc)∧W.cell? ⟨gx,Y,none⟩=some (.int .i64 q)) (first|exact s0|exact s1) (fail)
  clear s0 s1 e1 z1
  have HS8':Hid (DSS w (.slice (some ⟨b1,o1,none⟩) l.length cp) n bl gx bx gr br κ (W3.setCell ⟨gx,X,none⟩ (.int .i64 (q+dc))).drew (xs.set X (q+dc)) bs):=HS8
  have HD8':Hid (HB κ (W3.setCell ⟨gx,X,none⟩ (.int .i64 (q+dc))).drew (.tmp 5) bd 50 #[.int .i64 (X:Int), .int .i64 (Y:Int), .int .i64 dc]):=HD8
  clear HS8 HD8
  generalize (W3.setCell ⟨gx,X,none⟩ (.int .i64 (q+dc))).drew=W5 at *
  have d0:=HD8'.out.cell 0
  have qr:=HS8'.out.rb.cell 0
  simp only [zA,zB] at d0 qr
  obtain ⟨y0,hy0⟩:∃y0,bs[X]? = some y0:=⟨_,List.getElem?_eq_getElem (by rw [HLEN.out.2];omega)⟩
  have e3:=HS8'.out.r.cell X
  rw [zA,wW hy0] at e3
  have z3:=HS8'.out.r.frozen X
  have HS9:=Lib.hid (HS8'.out.setR X (k:Int))
  clear HS8' HD8' hy0
  go_wp2_with fail
  go_ret
  refine ⟨rfl,κ,?_⟩
  rw [if_pos rfl,HDX.out]
  simp only [HQQ.out]
  exact HS9.out
 ·have dg:decide (p≤q+dc)=true:=by simp;omega
  have hbt:b=false:=by rw [HBB.out];simpa using hgt
  subst hbt
  go_region_held3 (fun W=>W.cell? ⟨bx,0,none⟩=some (.slice (some ⟨gx,0,none⟩) n n)∧W.cell? ⟨bd,0,none⟩=some (.int .i64 (X:Int))∧W.cell? ⟨bd,1,none⟩=some (.int .i64 (Y:Int))∧W.cell? ⟨bd,2,none⟩=some (.int .i64 dc)∧W.cell? ⟨gx,X,none⟩=some (.int .i64 p)∧W.cell? ⟨gx,Y,none⟩=some (.int .i64 q)) (first|assumption|exact ⟨q1,r0,r1,r2,e1,e2⟩) (fail)
  have HS6:Hid (DSS w (.slice (some ⟨b1,o1,none⟩) l.length cp) n bl gx bx gr br κ W2.drew xs bs):=Lib.hid (HS5.out.drewN 1)
  clear r0 r1 r2 e1 e2 q1 HS5
  go_wp2_with fail
  go_ret
  refine ⟨rfl,κ,?_⟩
  rw [if_neg (by simp)]
  exact HS6.out
theorem orgs_at:∀{os:List Org} {ps:List (Value × Value)} {c:Nat} {o:Org} {p:Value × Value},os[c]? = some o→ps[c]? = some p→∀i,i<8→(orgs os ps)[c * 8+i]? = (ocs o p)[i]? := by
 intro os
 induction os with
 | nil=>intro ps c o p h;simp at h
 | cons a r ih =>
  intro ps c o p h1 h2 i hi
  cases ps with
  | nil=>simp at h2
  | cons b q =>
   have hc:orgs (a::r) (b::q)=ocs a b++orgs r q:=rfl
   have hl:(ocs a b).length=8:=rfl
   rw [hc]
   cases c with
   | zero =>
    simp at h1 h2
    subst h1 h2
    rw [uP,qY,zQ (by omega)]
   | succ c =>
    rw [zK (by omega),hl,show (c+1) * 8+i-8=c * 8+i by omega]
    exact ih (by simpa using h1) (by simpa using h2) i hi
theorem lks_at {l:List (Nat × Int)} {k:Nat} {q:Nat × Int} (h:l[k]? = some q):(aM l)[k * 2]? = some (.int .i64 (q.1:Int))∧(aM l)[k * 2+1]? = some (.int .i64 q.2):=by
 induction l generalizing k with
 | nil=>simp at h
 | cons e r ih =>
  have hc:aM (e::r)=[.int .i64 (e.1:Int), .int .i64 e.2]++aM r:=rfl
  rw [hc]
  cases k with
  | zero=>simp at h;subst h;exact ⟨rfl,rfl⟩
  | succ k =>
   obtain ⟨h1,h2⟩:=ih (k:=k) (by simpa using h)
   refine ⟨?_,?_⟩
   ·rw [zK (by simp;omega)];simpa [show (k+1) * 2-2=k * 2 by omega] using h1
   ·rw [zK (by simp;omega)];simpa [show (k+1) * 2+1-2=k * 2+1 by omega] using h2
structure OrgRd (W:World) (g go n cap:Nat) (os:List Org) (ol:List (Value × Value)):Prop where
 q:W.cell? ⟨g,17,none⟩=some (.slice (some ⟨go,0,none⟩) n cap)
 c:∀(c:Nat) (o:Org) (p:Value × Value),os[c]? = some o→ol[c]? = some p→∀(i:Nat) (v:Value),(ocs o p)[i]? = some v→W.cell? ⟨go,c * 8+i,none⟩=some v
 s:∀(c:Nat) (o:Org) (p:Value × Value),os[c]? = some o→ol[c]? = some p→∃(Al:Option Addr) (cl:Nat) (Av:Option Addr) (cv:Nat),p=(.slice Al o.leaf.lits.length cl, .slice Av o.chain.length cv)∧o.chain.length≤cv∧cv≤maxLen∧(∀(k:Nat) (q:Nat × Int),o.chain[k]? = some q→∃gv:Nat,Av=some ⟨gv,0,none⟩∧W.cell? ⟨gv,k * 2,none⟩=some (.int .i64 (q.1:Int))∧W.cell? ⟨gv,k * 2+1,none⟩=some (.int .i64 q.2))
theorem OrgRd.of {κ:Kap} {w:World} {g:Nat} {s:Sol} {V:EV} {U:SV} (h:SolM κ w g s V U) (h0:0<s.org.length):∃go cap,s.org.length≤cap∧cap≤maxLen∧∀W,Below w.heap.size w W→OrgRd W g go s.org.length cap s.org U.ol:=by
 obtain ⟨go,cap,hv, -, -,h2,h3, -, -⟩:=h.org.open_ h0
 refine ⟨go,cap,h2,h3,fun W hb => ?_⟩
 have hW:=h.keep hb
 obtain ⟨go2,cap2,hv2, -, -, -, -,hcc, -⟩:=hW.org.open_ h0
 rw [hv] at hv2
 injection hv2 with hv2 _ _
 injection hv2 with hv2
 injection hv2 with hv2 _ _
 subst hv2
 have q:=hW.eng.cellR (i:=8) rfl
 refine ⟨by rw [←hv];exact q,fun c o p ho hp i v hi => ?_,fun c o p ho hp => ?_⟩
 ·refine hcc _ _ ?_
  have hi8:i<8:=by have:=(zG.1 hi).1;exact this
  rw [orgs_at ho hp i hi8];exact hi
 ·obtain ⟨h5,h6⟩:=hW.och c o p ho hp
  obtain ⟨Al,cl,e1, -, -⟩:=h5.shape
  obtain ⟨Av,cv,e2,e3,e4⟩:=h6.shape
  refine ⟨Al,cl,Av,cv,by rw [←e1,←e2],e3,e4,fun k q hq => ?_⟩
  obtain ⟨gv,cv2,e5, -, -, -, -,hcc2, -⟩:=h6.open_ (by have:=(zG.1 hq).1;omega)
  rw [e2] at e5
  injection e5 with e5 _ _
  obtain ⟨l1,l2⟩:=lks_at hq
  exact ⟨gv,e5,hcc2 _ _ l1,hcc2 _ _ l2⟩
def gK (org:List Org) (last:Nat):Nat→List Bool
 | 0=>(List.replicate (last+1) false).set last true
 | k+1=>needStep org (gK org last k) (last-k)
theorem oK (org:List Org) (last:Nat):gK org last (last+1)=needF org last:=by
 have key:∀k,k≤last+1→gK org last k=(((List.range (last+1)).reverse).take k).foldl (needStep org) ((List.replicate (last+1) false).set last true):=by
  intro k
  induction k with
  | zero=>intro _;rfl
  | succ k ih =>
   intro hk
   have hlt:k<((List.range (last+1)).reverse).length:=by simp;omega
   rw [gK,ih (by omega),wN (List.getElem?_eq_getElem hlt),List.foldl_append]
   simp
 rw [key _ (Nat.le_refl _)]
 unfold needF
 rw [zU (by simp)]
theorem eT (l:List (Nat × Int)):∀n:List Bool,(l.foldl (fun n (q:Nat × Int)=>n.set q.1 true) n).length=n.length:=by
 induction l with
 | nil=>intro n;rfl
 | cons q r ih=>intro n;rw [xK,ih,qA]
theorem oO (org:List Org) (need:List Bool) (c:Nat):(needStep org need c).length=need.length:=by
 unfold needStep
 split
 ·rfl
 ·split
  ·rw [eT,qA]
  ·rfl
theorem bA (org:List Org) (last:Nat):∀k,(gK org last k).length=last+1:=by
 intro k
 induction k with
 | zero=>simp [gK]
 | succ k ih=>rw [gK,oO,ih]
theorem eW (n:Nat) (h:n≤LIM) (w:World):(Instr.makeSlice 32 (.int .i64 (n:Int)) (.int .i64 (n:Int))).run Try.prog w = .ok (.slice (some ⟨w.heap.size,0,none⟩) n n) (w.alloc (.cells (cbs (List.replicate n false)).toArray 4)):=by
 unfold LIM at h
 obtain ⟨i,hi,h0,h1,h2⟩:=qC nK
 rw [bJ _ _ i _ Try.underlying32 hi h0 n (by rw [h2];omega) (by omega) w,h1,bX _ (.bool false) _ (by decide) zero_b,qW]
 simp [cbs]
theorem mk_intL (n:Nat) (h:n≤LIM) (w:World):(Instr.makeSlice 33 (.int .i64 (n:Int)) (.int .i64 (n:Int))).run Try.prog w = .ok (.slice (some ⟨w.heap.size,0,none⟩) n n) (w.alloc (.cells (ci (List.replicate n 0)).toArray 3)):=by
 unfold LIM at h
 obtain ⟨i,hi,h0,h1,h2⟩:=qC gB
 rw [bJ _ _ i _ Try.underlying33 hi h0 n (by rw [h2];omega) (by omega) w,h1,bX _ (.int .i64 0) _ (by decide) zero_i,qW]
 simp [ci]
end Go.Proofs.Yticieifacalocaa
