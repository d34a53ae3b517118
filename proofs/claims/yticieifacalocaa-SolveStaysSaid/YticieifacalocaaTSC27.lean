/- DFit SolS -/
import Derived.Test.YticieifacalocaaTSC26
import Derived.Test.YticieifacalocaaTSC14
namespace Go.Proofs.Yticieifacalocaa
open Go.RowKit
def fitD (n:Nat) (d:Diff):Prop:=0≤d.x∧d.x<n∧0≤d.y∧d.y<n
set_option maxRecDepth 100000 in
theorem fitc_any (d:Diff) (n g:Nat) (W:World) (hd:fitD n d) (hb:Blk W g 3 #[.int .i64 (n:Int)]) :
  Calls Try.prog 96 #[.agg #[.int .i64 d.x, .int .i64 d.y, .int .i64 d.c], .pointer (some ⟨g,0,none⟩)] W fun e w'=>e = .returned (.bool false)∧Below W.heap.size W w':=by
 obtain ⟨d0,d1,d2,d3⟩:=hd
 have HB:=Lib.hid (((zM W.heap.size W).alloc (Nat.le_refl _) (.cells #[.int .i64 d.x, .int .i64 d.y, .int .i64 d.c] 50)))
 have b0:=(Blk.new W 50 #[.int .i64 d.x, .int .i64 d.y, .int .i64 d.c]).cell 0
 have b1:=(Blk.new W 50 #[.int .i64 d.x, .int .i64 d.y, .int .i64 d.c]).cell 1
 have q0:=(hb.alloc (.cells #[.int .i64 d.x, .int .i64 d.y, .int .i64 d.c] 50)).cell 0
 simp only [zA,zB,zC] at b0 b1 q0
 have y1:decide (d.x<0)=false:=by simp;omega
 have y2:decide (d.x≥(n:Int))=false:=by simp;omega
 have y3:decide (d.y<0)=false:=by simp;omega
 have y4:decide (d.y≥(n:Int))=false:=by simp;omega
 clear hb
 go_enter Try.func96,Try.ntmps96
 go_upto_region 1 with fail
 generalize W.alloc (.cells #[.int .i64 d.x, .int .i64 d.y, .int .i64 d.c] 50)=W1 at *
 go_wp2_with fail
 go_ret
 exact ⟨rfl,HB.out⟩
set_option maxRecDepth 100000 in
theorem idxD_any (v:Value) (l:List Diff) (n g:Nat) (w:World) (hv:Diffs w v l) (hf:∀d∈l,fitD n d) (hb:Blk w g 3 #[.int .i64 (n:Int)]) :
  Calls Try.prog 111 #[v, .func (.func 96) #[] #[.pointer (some ⟨g,0,none⟩)]] w fun e w'=>e = .returned (.int .i64 (-1))∧Below w.heap.size w w':=by
 have HV:=Lib.hid hv
 have HF:=Lib.hid hf
 have HB:=Lib.hid hb
 obtain ⟨A,c,rfl,h1,h2,h3,hr⟩:=hv
 unfold maxLen at h2
 clear h3 hr hb hf
 go_enter Try.func111,Try.ntmps111
 go_wp2_with fail
 go_loopw [5,8] (fun _ i wr=>∃k:Nat,k≤l.length∧i = .int .i64 k∧Below w.heap.size w wr) (fun _ i _=>l.length-(intOf i).toNat)
 case atStart=>exact ⟨0,by omega,rfl,zM _ _⟩
 case round =>
  obtain ⟨k,hk,rfl,hbw⟩:=hrel
  have HBW:=Lib.hid hbw
  clear hbw
  by_cases hlt:k<l.length
  ·obtain ⟨d,hd⟩:∃d,l[k]? = some d:=⟨_,List.getElem?_eq_getElem hlt⟩
   obtain ⟨A',c',hv', -, -, -,hrd⟩:=HV.out.keep HBW.out
   injection hv' with e1 e2 e3
   subst e1 e3
   obtain ⟨b1,o1,rfl,hb1,hx1,hy1,hz1⟩:=hrd.diff hd
   have HC:Hid (Calls Try.prog 96 #[.agg #[.int .i64 d.x, .int .i64 d.y, .int .i64 d.c], .pointer (some ⟨g,0,none⟩)] wr fun e w'=>e = .returned (.bool false)∧Below wr.heap.size wr w'):=Lib.hid (fitc_any d n g wr (HF.out d (List.mem_of_getElem? hd)) (HB.out.keep HBW.out))
   have y1:(k:Int)<(l.length:Int):=by omega
   clear hd hrd
   go_wp2_with fail
   refine HC.out.mono ?_
   rintro e w' ⟨rfl,hb'⟩
   have HB2:=Lib.hid (HBW.out.trans (hb'.mono HBW.out.size))
   clear hb' HC
   go_wp2_with fail
   go_roundw
   case rel=>exact ⟨k+1,by omega,by go_num,HB2.out⟩
   case measure=>simp [intOf];omega
  ·go_wp2_with fail
   go_ret
   exact ⟨rfl,HBW.out⟩
set_option maxRecDepth 100000 in
theorem cntD_any (v:Value) (l:List Diff) (n g:Nat) (w:World) (hv:Diffs w v l) (hf:∀d∈l,fitD n d) (hb:Blk w g 3 #[.int .i64 (n:Int)]) :
  Calls Try.prog 95 #[v, .func (.func 96) #[] #[.pointer (some ⟨g,0,none⟩)]] w fun e w'=>e = .returned (.bool false)∧Below w.heap.size w w':=by
 have HI:=Lib.hid (idxD_any v l n g w hv hf hb)
 obtain ⟨A,c,rfl,h1,h2,h3,hr⟩:=hv
 clear h3 hr h2 hf hb
 go_enter Try.func95,Try.ntmps95
 go_wp2_with fail
 refine HI.out.mono ?_
 rintro e w' ⟨rfl,hb⟩
 have HB:=Lib.hid hb
 clear hb
 go_wp2_with fail
 go_ret
 exact ⟨rfl,HB.out⟩
set_option maxRecDepth 100000 in
theorem fits_any (v:Value) (l:List Diff) (n:Nat) (w:World) (hv:Diffs w v l) (hn:n≤32) (hf:∀d∈l,fitD n d) :
  Calls Try.prog 86 #[.int .i64 (n:Int),v] w fun e w'=>e = .returned (.bool true)∧Below w.heap.size w w':=by
 have HC:=Lib.hid (cntD_any v l n w.heap.size (w.alloc (.cells #[.int .i64 (n:Int)] 3)) (hv.keep ((zM _ _).alloc (Nat.le_refl _) _)) hf (Blk.new w _ _))
 have HB:=Lib.hid (((zM w.heap.size w).alloc (Nat.le_refl _) (.cells #[.int .i64 (n:Int)] 3)))
 have b0:=(Blk.new w 3 #[.int .i64 (n:Int)]).cell 0
 simp only [zA,zB] at b0
 obtain ⟨A,c,rfl,h1,h2,h3,hr⟩:=hv
 have y1:decide ((n:Int)<0)=false:=by simp
 have y2:decide ((n:Int) > 32)=false:=by simp;omega
 have y3:decide (32<n)=false:=by simp [hn]
 have hmf:∀(fn:Fn) (first cap:Array Value) (W:World),(Instr.makeFunc fn first cap).run Try.prog W = .ok (.func fn first cap) W:=fun _ _ _ _=>rfl
 clear h3 hr h2 hf
 go_enter Try.func86,Try.ntmps86
 go_upto_region 1 with fail
 generalize w.alloc (.cells #[.int .i64 (n:Int)] 3)=W1 at *
 go_wp2_with fail
 refine HC.out.mono ?_
 rintro e w' ⟨rfl,hb⟩
 have HB2:=Lib.hid (HB.out.trans (hb.mono HB.out.size))
 clear hb
 go_wp2_with fail
 go_ret
 exact ⟨rfl,HB2.out⟩
def Arc.cells (a:Arc):List Value:=[.int .i64 a.lit, .int .i64 a.x, .int .i64 a.y, .int .i64 a.c]
def acs (l:List Arc):List Value:=l.flatMap Arc.cells
def eM (l:List (Nat × Int)):List Value:=l.flatMap fun p=>[.int .i64 (p.1:Int), .int .i64 p.2]
def cbs (xs:List Bool):List Value:=xs.map Value.bool
def ocs (o:Org) (p:Value × Value):List Value:=[.int .i64 o.leaf.kind, .int .i64 o.leaf.index,p.1, .int .i64 o.leaf.p, .int .i64 o.leaf.q, .int .i64 o.leaf.var, .int .i64 (o.first:Int),p.2]
def orgs (os:List Org) (ps:List (Value × Value)):List Value:=(os.zip ps).flatMap fun z=>ocs z.1 z.2
structure SV where
 ob:Value
 vn:Value
 ga:Nat
 sa:List Value
 gc:Nat
 fi:Int
 fb:Int
 av:Value
 cv:Value
 vo:Value
 ol:List (Value × Value)
 gu:Nat
 gy:Nat
def SV.rest (U:SV) (N B:Nat) (rst:Int):List Value :=
 [U.ob,U.vn, .slice (some ⟨U.ga,0,none⟩) N N, .slice (some ⟨U.gc,0,none⟩) B B, .int .i64 U.fi, .int .i64 U.fb,U.av,U.cv,U.vo, .slice (some ⟨U.gu,0,none⟩) B B, .slice (some ⟨U.gy,0,none⟩) B B, .int .i64 rst]
structure SolM (κ:Kap) (w:World) (g:Nat) (s:Sol) (V:EV) (U:SV):Prop where
 eng:EngM κ w g 89 (U.rest s.num.length s.e.val.length s.rst) 0 s.e V
 num:Hold κ w .num 3 1 U.vn s.num.length (ci s.num)
 arcs:HB κ w .arcs U.ga 139 U.sa.toArray
 al:U.sa.length=s.num.length
 aln:s.arcs.length=s.num.length
 ar:∀y u,U.sa[y]? = some u→Hold κ w (.ar y) 126 4 u (s.arcs.getD y []).length (acs (s.arcs.getD y []))
 act:HB κ w .act U.gc 4 (cbs s.act).toArray
 actl:s.act.length=s.e.val.length
 org:Hold κ w .org 94 8 U.vo s.org.length (orgs s.org U.ol)
 oll:U.ol.length=s.org.length
 och:∀c o p,s.org[c]? = some o→U.ol[c]? = some p→Hold κ w (.olt c) 3 1 p.1 o.leaf.lits.length (ci o.leaf.lits)∧Hold κ w (.och c) 115 2 p.2 o.chain.length (eM o.chain)
 unt:HB κ w .unt U.gu 3 (ci s.unt).toArray
 untl:s.unt.length=s.e.val.length
 acty:HB κ w .acty U.gy 3 (ci s.acty).toArray
 actyl:s.acty.length=s.e.val.length
 arl:∀y,∀a∈s.arcs.getD y [], -1048576≤a.lit∧a.lit≤1048576
def gI:Col→Prop
 | .tmp _=>False
 | _=>True
theorem bK {s:Col} (h:gD s):gI s:=by cases s<;>first|trivial|exact h
section
variable {κ κ':Kap} {w w':World} {g:Nat} {s:Sol} {V V':EV} {U:SV} {S:Col→Prop}
theorem HB.rc {c:Col} {k:Nat} {t:TypeId} {cs:Array Value} (h:HB κ w c k t cs) (hk:∀j,κ j=some c→κ' j=some c):HB κ' w c k t cs:=⟨h.b,hk _ h.k⟩
theorem Hold.rc {c:Col} {e:TypeId} {sz n:Nat} {v:Value} {xs:List Value} (h:Hold κ w c e sz v n xs) (hk:∀j,κ j=some c→κ' j=some c):Hold κ' w c e sz v n xs:=⟨h.o,fun k hv=>hk _ (h.k k hv)⟩
theorem MapC.rc {b B:Nat} {m:Int→Value} (h:MapC κ w b B m) (hk:∀j,κ j=some .wat→κ' j=some .wat):MapC κ' w b B m:=⟨h.d,hk _ h.k⟩
theorem EngM.rc {t:TypeId} {rest:List Value} {x:Int} {e:Eng} (h:EngM κ w g t rest x e V) (hk:∀c,gD c→∀j,κ j=some c→κ' j=some c):EngM κ' w g t rest x e V :=
 ⟨h.blk.rc (hk _ trivial),h.cls.rc (hk _ trivial),fun c u hu=>(h.cl c u hu).rc (hk _ trivial),h.inp.rc (hk _ trivial),h.val.rc (hk _ trivial),h.rsn.rc (hk _ trivial),h.lvl.rc (hk _ trivial),h.rl,h.ll,h.tr.rc (hk _ trivial),h.st.rc (hk _ trivial),h.wat.rc (hk _ trivial),fun l hl h0=>(h.wt l hl h0).rc (hk _ trivial),h.B,h.v3⟩
theorem SolM.rc (h:SolM κ w g s V U) (hk:∀c,gI c→∀j,κ j=some c→κ' j=some c):SolM κ' w g s V U :=
 ⟨h.eng.rc fun c hc=>hk c (bK hc),h.num.rc (hk _ trivial),h.arcs.rc (hk _ trivial),h.al,h.aln,fun y u hu=>(h.ar y u hu).rc (hk _ trivial),h.act.rc (hk _ trivial),h.actl,h.org.rc (hk _ trivial),h.oll,
  fun c o p ho hp=>⟨(h.och c o p ho hp).1.rc (hk _ trivial),(h.och c o p ho hp).2.rc (hk _ trivial)⟩,h.unt.rc (hk _ trivial),h.untl,h.acty.rc (hk _ trivial),h.actyl,h.arl⟩
theorem SolM.fr (h:SolM κ w g s V U) (f:Fr κ κ' w w' S) (hs:∀c,gI c→¬S c):SolM κ' w' g s V U :=
 ⟨h.eng.fr f fun c hc=>hs c (bK hc),h.num.fr f (hs _ trivial),h.arcs.fr f (hs _ trivial),h.al,h.aln,fun y u hu=>(h.ar y u hu).fr f (hs _ trivial),h.act.fr f (hs _ trivial),h.actl,h.org.fr f (hs _ trivial),h.oll,
  fun c o p ho hp=>⟨(h.och c o p ho hp).1.fr f (hs _ trivial),(h.och c o p ho hp).2.fr f (hs _ trivial)⟩,h.unt.fr f (hs _ trivial),h.untl,h.acty.fr f (hs _ trivial),h.actyl,h.arl⟩
theorem SolM.keep (h:SolM κ w g s V U) (hb:Below w.heap.size w w'):SolM κ w' g s V U:=h.fr (Fr.kept κ hb (fun _=>False)) fun _ _=>id
theorem SolM.alloc (h:SolM κ w g s V U) (o:Obj):SolM κ (w.alloc o) g s V U:=h.fr (Fr.alloc κ w o (fun _=>False)) fun _ _=>id
theorem SolM.drewN (h:SolM κ w g s V U) (n:Nat):SolM κ (w.drewN n) g s V U:=h.fr (Fr.drewN κ w n (fun _=>False)) fun _ _=>id
theorem SolM.withE (h:SolM κ w g s V U) {e:Eng} (f:Fr κ κ' w w' S) (hS:∀c,S c→gD c) (he:EngM κ' w' g 89 (U.rest s.num.length s.e.val.length s.rst) 0 e V') (hl:e.val.length=s.e.val.length):SolM κ' w' g { s with e:=e } V' U:=by
 have n1:∀c,¬gD c→¬S c:=fun c hc hs=>hc (hS c hs)
 exact ⟨by rw [←hl] at he;exact he,h.num.fr f (n1 _ id),h.arcs.fr f (n1 _ id),h.al,h.aln,fun y u hu=>(h.ar y u hu).fr f (n1 _ id),h.act.fr f (n1 _ id),h.actl.trans hl.symm,h.org.fr f (n1 _ id),h.oll,
  fun c o p ho hp=>⟨(h.och c o p ho hp).1.fr f (n1 _ id),(h.och c o p ho hp).2.fr f (n1 _ id)⟩,h.unt.fr f (n1 _ id),h.untl.trans hl.symm,h.acty.fr f (n1 _ id),h.actyl.trans hl.symm,h.arl⟩
theorem SolM.setVal (h:SolM κ w g s V U) (v:Nat) {y:Int} (hy:y=0∨y=1∨y = -1):SolM κ (w.setCell ⟨V.gv,v,none⟩ (.int .i8 y)) g { s with e:={ s.e with val:=s.e.val.set v y } } V U :=
 h.withE (frs κ w h.eng.val.k) (fun c hc=>by subst hc;trivial) (h.eng.setVal v hy) (by simp)
theorem SolM.setRsn (h:SolM κ w g s V U) (v:Nat) (y:Int):SolM κ (w.setCell ⟨V.gr,v,none⟩ (.int .i64 y)) g { s with e:={ s.e with rsn:=s.e.rsn.set v y } } V U :=
 h.withE (frs κ w h.eng.rsn.k) (fun c hc=>by subst hc;trivial) (h.eng.setRsn v y) rfl
theorem EngM.setRest {t:TypeId} {rest:List Value} {x:Int} {e:Eng} (h:EngM κ w g t rest x e V) (i:Nat) (v:Value):EngM κ (w.setCell ⟨g,9+i,none⟩ v) g t (rest.set i v) x e V:=by
 have f:=frs κ w (i:=9+i) (u:=v) h.blk.k
 refine ⟨?_,h.cls.fr f (by simp),fun c u hu=>(h.cl c u hu).fr f (by simp),h.inp.fr f (by simp),h.val.fr f (by simp),h.rsn.fr f (by simp),h.lvl.fr f (by simp),h.rl,h.ll,h.tr.fr f (by simp),h.st.fr f (by simp),h.wat.fr f (by simp),fun l hl h0=>(h.wt l hl h0).fr f (by simp),h.B,h.v3⟩
 have:=h.blk.set_ (9+i) v
 rw [gK,kQ _ _ (by simp [EV.cells])] at this
 simpa [EV.cells] using this
theorem SolM.others (h:SolM κ w g s V U) (f:Fr κ κ' w w' (fun c=>c = .slv)) {U':SV} {r:Int} (he:EngM κ' w' g 89 (U'.rest s.num.length s.e.val.length r) 0 s.e V') (hU:U'.vn=U.vn∧U'.ga=U.ga∧U'.sa=U.sa∧U'.gc=U.gc∧U'.vo=U.vo∧U'.ol=U.ol∧U'.gu=U.gu∧U'.gy=U.gy):SolM κ' w' g { s with rst:=r } V' U':=by
 obtain ⟨ob,vn,ga,sa,gc,fi,fb,av,cv,vo,ol,gu,gy⟩:=U
 obtain ⟨ob',vn',ga',sa',gc',fi',fb',av',cv',vo',ol',gu',gy'⟩:=U'
 obtain ⟨h1,h2,h3,h4,h5,h6,h7,h8⟩:=hU
 simp only at h1 h2 h3 h4 h5 h6 h7 h8
 subst h1 h2 h3 h4 h5 h6 h7 h8
 exact ⟨he,h.num.fr f (by simp),h.arcs.fr f (by simp),h.al,h.aln,fun y u hu=>(h.ar y u hu).fr f (by simp),h.act.fr f (by simp),h.actl,h.org.fr f (by simp),h.oll,
  fun c o p ho hp=>⟨(h.och c o p ho hp).1.fr f (by simp),(h.och c o p ho hp).2.fr f (by simp)⟩,h.unt.fr f (by simp),h.untl,h.acty.fr f (by simp),h.actyl,h.arl⟩
theorem SolM.setRst (h:SolM κ w g s V U) (r:Int):SolM κ (w.setCell ⟨g,20,none⟩ (.int .i64 r)) g { s with rst:=r } V U :=
 h.others (frs κ w h.eng.blk.k) (h.eng.setRest 11 (.int .i64 r)) ⟨rfl,rfl,rfl,rfl,rfl,rfl,rfl,rfl⟩
theorem fX (xs:List Bool) (i:Nat) (y:Bool):cbs (xs.set i y)=(cbs xs).set i (.bool y):=by simp [cbs,List.map_set]
theorem SolM.setAct (h:SolM κ w g s V U) (v:Nat) (b:Bool):SolM κ (w.setCell ⟨U.gc,v,none⟩ (.bool b)) g { s with act:=s.act.set v b } V U:=by
 have f:=frs κ w (i:=v) (u := .bool b) h.act.k
 refine ⟨h.eng.fr f fun c hc e=>by subst e;exact hc,h.num.fr f (by simp),h.arcs.fr f (by simp),h.al,h.aln,fun y u hu=>(h.ar y u hu).fr f (by simp),?_,by simp [h.actl],h.org.fr f (by simp),h.oll,
  fun c o p ho hp=>⟨(h.och c o p ho hp).1.fr f (by simp),(h.och c o p ho hp).2.fr f (by simp)⟩,h.unt.fr f (by simp),h.untl,h.acty.fr f (by simp),h.actyl,h.arl⟩
 have:=h.act.set_ v (.bool b)
 rw [gK] at this
 show HB _ _ _ _ _ (cbs (s.act.set v b)).toArray
 rw [fX];exact this
theorem SolM.setUnt (h:SolM κ w g s V U) (v:Nat) (y:Int):SolM κ (w.setCell ⟨U.gu,v,none⟩ (.int .i64 y)) g { s with unt:=s.unt.set v y } V U:=by
 have f:=frs κ w (i:=v) (u := .int .i64 y) h.unt.k
 refine ⟨h.eng.fr f fun c hc e=>by subst e;exact hc,h.num.fr f (by simp),h.arcs.fr f (by simp),h.al,h.aln,fun y u hu=>(h.ar y u hu).fr f (by simp),h.act.fr f (by simp),h.actl,h.org.fr f (by simp),h.oll,
  fun c o p ho hp=>⟨(h.och c o p ho hp).1.fr f (by simp),(h.och c o p ho hp).2.fr f (by simp)⟩,?_,by simp [h.untl],h.acty.fr f (by simp),h.actyl,h.arl⟩
 have:=h.unt.set_ v (.int .i64 y)
 rw [gK] at this
 show HB _ _ _ _ _ (ci (s.unt.set v y)).toArray
 rw [cG];exact this
theorem SolM.setActy (h:SolM κ w g s V U) (v:Nat) (y:Int):SolM κ (w.setCell ⟨U.gy,v,none⟩ (.int .i64 y)) g { s with acty:=s.acty.set v y } V U:=by
 have f:=frs κ w (i:=v) (u := .int .i64 y) h.acty.k
 refine ⟨h.eng.fr f fun c hc e=>by subst e;exact hc,h.num.fr f (by simp),h.arcs.fr f (by simp),h.al,h.aln,fun y u hu=>(h.ar y u hu).fr f (by simp),h.act.fr f (by simp),h.actl,h.org.fr f (by simp),h.oll,
  fun c o p ho hp=>⟨(h.och c o p ho hp).1.fr f (by simp),(h.och c o p ho hp).2.fr f (by simp)⟩,h.unt.fr f (by simp),h.untl,?_,by simp [h.actyl],h.arl⟩
 have:=h.acty.set_ v (.int .i64 y)
 rw [gK] at this
 show HB _ _ _ _ _ (ci (s.acty.set v y)).toArray
 rw [cG];exact this
theorem SolM.setNum (h:SolM κ w g s V U) {gn cap:Nat} (hv:U.vn = .slice (some ⟨gn,0,none⟩) s.num.length cap) (i:Nat) (y:Int):SolM κ (w.setCell ⟨gn,i,none⟩ (.int .i64 y)) g { s with num:=s.num.set i y } V U:=by
 have hk:κ gn=some .num:=h.num.k gn (by rw [hv];rfl)
 have f:=frs κ w (i:=i) (u := .int .i64 y) hk
 have hh:=h.num
 rw [hv] at hh
 refine ⟨?_,?_,h.arcs.fr f (by simp),by simp [h.al],by simp [h.aln],fun y u hu=>(h.ar y u hu).fr f (by simp),h.act.fr f (by simp),h.actl,h.org.fr f (by simp),h.oll,
  fun c o p ho hp=>⟨(h.och c o p ho hp).1.fr f (by simp),(h.och c o p ho hp).2.fr f (by simp)⟩,h.unt.fr f (by simp),h.untl,h.acty.fr f (by simp),h.actyl,h.arl⟩
 ·have:=h.eng.fr f fun c hc e=>by subst e;exact hc
  simpa using this
 ·have:=hh.set_ i (.int .i64 y)
  show Hold _ _ _ _ _ _ (s.num.set i y).length (ci (s.num.set i y))
  rw [cG,qF,hv];exact this
theorem SolM.putNum (h:SolM κ w g s V U) {v:Value} {num:List Int} (hl:num.length=s.num.length) (hn:Hold κ w .num 3 1 v num.length (ci num)):SolM κ (w.setCell ⟨g,10,none⟩ v) g { s with num:=num } V { U with vn:=v }:=by
 have f:=frs κ w (i:=10) (u:=v) h.eng.blk.k
 refine ⟨?_,hn.fr f (by simp),h.arcs.fr f (by simp),by simp [h.al,hl],by simp [h.aln,hl],fun y u hu=>(h.ar y u hu).fr f (by simp),h.act.fr f (by simp),h.actl,h.org.fr f (by simp),h.oll,
  fun c o p ho hp=>⟨(h.och c o p ho hp).1.fr f (by simp),(h.och c o p ho hp).2.fr f (by simp)⟩,h.unt.fr f (by simp),h.untl,h.acty.fr f (by simp),h.actyl,h.arl⟩
 have:=h.eng.setRest 1 v
 simp only [hl]
 exact this
theorem pG {xs:List (List Arc)} {i j:Nat} {a:List Arc} (h:i<xs.length):(xs.set i a).getD j []=if j=i then a else xs.getD j []:=by
 rw [List.getD_eq_getElem?_getD,List.getD_eq_getElem?_getD,kR]
 by_cases e:j=i
 ·subst e;simp [h]
 ·rw [if_neg (fun e'=>e e'.symm),if_neg e]
theorem SolM.putAr (h:SolM κ w g s V U) {y:Nat} (f:Fr κ κ' w w' (fun c=>c = .ar y)) {v:Value} {l:List Arc} (hy:y<s.num.length) (hn:Hold κ' w' (.ar y) 126 4 v l.length (acs l)) (hal:∀a∈l, -1048576≤a.lit∧a.lit≤1048576) :
  SolM κ' (w'.setCell ⟨U.ga,y,none⟩ v) g { s with arcs:=s.arcs.set y l } V { U with sa:=U.sa.set y v }∧Fr κ κ' w (w'.setCell ⟨U.ga,y,none⟩ v) (fun c=>c = .arcs∨c = .ar y):=by
 have ha:=h.arcs.fr f (by simp)
 have f2:=frs κ' w' (i:=y) (u:=v) ha.k
 have f3:Fr κ κ' w (w'.setCell ⟨U.ga,y,none⟩ v) (fun c=>c = .arcs∨c = .ar y):=(f.mono fun _ e => .inr e).trans (f2.mono fun _ e => .inl e)
 refine ⟨⟨h.eng.fr f3 fun c hc e=>by rcases e with rfl|rfl<;>exact hc,h.num.fr f3 (by simp),?_,by simp [h.al],by simp [h.aln],fun z u hu => ?_,h.act.fr f3 (by simp),h.actl,h.org.fr f3 (by simp),h.oll,
  fun c o p ho hp=>⟨(h.och c o p ho hp).1.fr f3 (by simp),(h.och c o p ho hp).2.fr f3 (by simp)⟩,h.unt.fr f3 (by simp),h.untl,h.acty.fr f3 (by simp),h.actyl,fun z a ha => ?_⟩,f3⟩
 ·have:=ha.set_ y v
  rw [gK] at this
  exact this
 ·simp only [kR] at hu
  show Hold _ _ _ _ _ _ ((s.arcs.set y l).getD z []).length (acs ((s.arcs.set y l).getD z []))
  rw [pG (by rw [h.aln];exact hy)]
  by_cases e:z=y
  ·subst e
   rw [if_pos rfl]
   rw [if_pos rfl,if_pos (by rw [h.al];exact hy)] at hu
   injection hu with hu
   subst hu
   exact hn.fr f2 (by simp)
  ·rw [if_neg e]
   rw [if_neg (fun e'=>e e'.symm)] at hu
   exact (h.ar z u hu).fr f3 (by simp [e])
 ·have ha2:a∈(s.arcs.set y l).getD z []:=ha
  rw [pG (by rw [h.aln];exact hy)] at ha2
  split at ha2
  ·exact hal a ha2
  ·exact h.arl z a ha2
theorem zip_app {α β:Type} {xs:List α} {ys:List β} (h:ys.length=xs.length) (x:α) (y:β):(xs++[x]).zip (ys++[y])=xs.zip ys++[(x,y)]:=by
 rw [List.zip_append h.symm];rfl
theorem orgs_app {os:List Org} {ps:List (Value × Value)} (h:ps.length=os.length) (o:Org) (p:Value × Value):orgs (os++[o]) (ps++[p])=orgs os ps++ocs o p:=by
 unfold orgs;rw [zip_app h];simp
theorem SolM.pushOrg (h:SolM κ w g s V U) (f:Fr κ κ' w w' (fun c=>c = .org)) {v:Value} {o:Org} {p:Value × Value} (ho:Hold κ' w' .org 94 8 v (s.org.length+1) (orgs s.org U.ol++ocs o p))
  (h1:Hold κ' w' (.olt s.org.length) 3 1 p.1 o.leaf.lits.length (ci o.leaf.lits)) (h2:Hold κ' w' (.och s.org.length) 115 2 p.2 o.chain.length (eM o.chain)) :
  SolM κ' (w'.setCell ⟨g,17,none⟩ v) g { s with org:=s.org++[o] } V { U with vo:=v,ol:=U.ol++[p] }∧Fr κ κ' w (w'.setCell ⟨g,17,none⟩ v) (fun c=>c = .org∨c = .slv):=by
 have he:=h.eng.fr f fun c hc e=>by subst e;exact hc
 have f2:=frs κ' w' (i:=17) (u:=v) he.blk.k
 have f3:Fr κ κ' w (w'.setCell ⟨g,17,none⟩ v) (fun c=>c = .org∨c = .slv):=(f.mono fun _ e => .inl e).trans (f2.mono fun _ e => .inr e)
 refine ⟨⟨he.setRest 8 v,h.num.fr f3 (by simp),h.arcs.fr f3 (by simp),h.al,h.aln,fun y u hu=>(h.ar y u hu).fr f3 (by simp),h.act.fr f3 (by simp),h.actl,?_,by simp [h.oll],
  fun c o' p' ho' hp' => ?_,h.unt.fr f3 (by simp),h.untl,h.acty.fr f3 (by simp),h.actyl,h.arl⟩,f3⟩
 ·have:=ho.fr f2 (by simp)
  show Hold _ _ _ _ _ _ (s.org++[o]).length (orgs (s.org++[o]) (U.ol++[p]))
  rw [orgs_app h.oll,zH]
  exact this
 ·simp only at ho' hp'
  rcases xT c s.org.length with hc|hc|hc
  ·rw [zP hc] at ho'
   rw [zP (by rw [h.oll];exact hc)] at hp'
   exact ⟨(h.och c o' p' ho' hp').1.fr f3 (by simp),(h.och c o' p' ho' hp').2.fr f3 (by simp)⟩
  ·subst hc
   rw [zL (Nat.le_refl _),kC] at ho'
   rw [zL (by rw [h.oll];exact Nat.le_refl _),h.oll,kC] at hp'
   simp at ho' hp'
   subst ho' hp'
   exact ⟨h1.fr f2 (by simp),h2.fr f2 (by simp)⟩
  ·rw [List.getElem?_eq_none (by simp;omega)] at ho'
   cases ho'
def SV.same (U U':SV):Prop:=U'.ob=U.ob∧U'.fi=U.fi∧U'.fb=U.fb∧U'.av=U.av∧U'.cv=U.cv∧U'.ga=U.ga∧U'.gc=U.gc∧U'.gu=U.gu∧U'.gy=U.gy
theorem SV.same.refl (U:SV):U.same U:=⟨rfl,rfl,rfl,rfl,rfl,rfl,rfl,rfl,rfl⟩
theorem SV.same.trans {U1 U2 U3:SV} (h:U1.same U2) (k:U2.same U3):U1.same U3:=⟨k.1.trans h.1,k.2.1.trans h.2.1,k.2.2.1.trans h.2.2.1,k.2.2.2.1.trans h.2.2.2.1,k.2.2.2.2.1.trans h.2.2.2.2.1,k.2.2.2.2.2.1.trans h.2.2.2.2.2.1,k.2.2.2.2.2.2.1.trans h.2.2.2.2.2.2.1,k.2.2.2.2.2.2.2.1.trans h.2.2.2.2.2.2.2.1,k.2.2.2.2.2.2.2.2.trans h.2.2.2.2.2.2.2.2⟩
def gJ (κ:Kap) (w:World) (g:Nat) (U0:SV) (S:Col→Prop) (r:Value) (s:Sol) (en:Ending) (w':World):Prop :=
 en = .returned r∧∃κ' V' U',SolM κ' w' g s V' U'∧Fr κ κ' w w' S∧U0.same U'
end
end Go.Proofs.Yticieifacalocaa
