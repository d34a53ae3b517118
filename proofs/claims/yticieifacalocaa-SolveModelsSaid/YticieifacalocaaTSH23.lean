/- SolEng3 SolS -/
import Derived.Test.YticieifacalocaaTSH22
namespace Go.Proofs.Yticieifacalocaa
open Go.RowKit
theorem nE {w:World} {B:Nat} {e:TypeId} {sz n:Nat} {v:Value} {xs:List Value} (h:w.ownsRow B e sz v n xs):w.ownsRow 0 e sz v n xs:=by
 refine ⟨h.1,?_⟩
 rcases h.2 with h0|⟨g,cap,cur,h1,h2,h3⟩
 ·exact .inl h0
 ·exact .inr ⟨g,cap,cur,h1,zQ _,h3⟩
section
variable {κ κ':Kap} {w w':World} {g:Nat} {t:TypeId} {rest:List Value} {x:Int} {e:Eng} {V:EV} {S:Col→Prop}
theorem EngM.paintCl (h:EngM κ w g t rest x e V) {v:Value} {cl:List Int} (c:Nat) (hb:Below w.heap.size w w') (ho:w'.ownsRow w.heap.size 3 1 v cl.length (ci cl)) :
  ∃κ',EngM κ' w' g t rest x e V∧Hold κ' w' (.cl c) 3 1 v cl.length (ci cl)∧∀S:Col→Prop,Fr κ κ' w w' S:=by
 cases hv:v.ownBlock with
 | none =>
  exact ⟨κ,h.keep hb,⟨nE ho,fun k hk=>by rw [hv] at hk;cases hk⟩,fun S=>Fr.kept κ hb S⟩
 | some k =>
  have hk:=(ho.lt k hv).1
  have f:∀S:Col→Prop,Fr κ (kset κ k (.cl c)) w w' S:=fun S=>(Fr.kept κ hb S).paint hk _
  refine ⟨kset κ k (.cl c),h.fr (f fun _=>False) fun _ _=>id,⟨nE ho,fun j hj => ?_⟩,f⟩
  rw [hv] at hj
  injection hj with hj
  subst hj
  unfold kset;rw [if_pos rfl]
theorem cl_app (e:Eng) (cl:List Int) (c:Nat):({ e with cls:=e.cls++[cl] }:Eng).cl c=if c=e.cls.length then cl else e.cl c:=by
 unfold Eng.cl
 simp only [List.getD_eq_getElem?_getD,vV]
 by_cases h:c<e.cls.length
 ·rw [if_pos h,if_neg (by omega)]
 ·rw [if_neg h]
  by_cases e1:c=e.cls.length
  ·rw [if_pos e1,e1];simp
  ·rw [if_neg e1,List.getElem?_eq_none (by simp;omega),List.getElem?_eq_none (by omega)]
theorem EngM.pushCls (h:EngM κ w g t rest x e V) {v v':Value} {cl:List Int} {o:Obj} (hv:Hold κ w (.cl e.cls.length) 3 1 v cl.length (ci cl)) (ho:w'.ownsRow 0 33 1 v' (e.cls.length+1) (V.us++[v]))
  (hg:(w.alloc o).grownBy w' V.vc.ownBlock) (hat:v'.ownBlock=V.vc.ownBlock∨v'.ownBlock=some (w.alloc o).heap.size) :
  ∃κ',HB κ' w' .slv g t (V.cells e.val.length e.hd++rest).toArray∧EngM κ' (w'.setCell ⟨g,0,none⟩ v') g t rest x { e with cls:=e.cls++[cl] } { V with vc:=v',us:=V.us++[v] }∧Hold κ' (w'.setCell ⟨g,0,none⟩ v') (.cl e.cls.length) 3 1 v cl.length (ci cl)∧Fr κ κ' w (w'.setCell ⟨g,0,none⟩ v') (fun c=>c = .cls∨c = .slv):=by
 have h1:=h.alloc o
 have hv1:Hold κ (w.alloc o) (.cl e.cls.length) 3 1 v cl.length (ci cl):=hv.fr (Fr.alloc κ w o fun _=>False) id
 obtain ⟨κ',k1,k2⟩:=h1.cls.app (S:=fun c=>c = .cls) ho hg hat rfl
 have hb:=h1.blk.fr k2 (by simp)
 have f2:Fr κ' κ' w' (w'.setCell ⟨g,0,none⟩ v') (fun c=>c = .slv):=Fr.set κ' w' hb.k rfl
 have f:Fr κ κ' (w.alloc o) (w'.setCell ⟨g,0,none⟩ v') (fun c=>c = .cls∨c = .slv):=(k2.mono fun s hs => .inl hs).trans (f2.mono fun s hs => .inr hs)
 have hv2:Hold κ' (w'.setCell ⟨g,0,none⟩ v') (.cl e.cls.length) 3 1 v cl.length (ci cl):=hv1.fr f (by simp)
 have hus:V.us.length=e.cls.length:=by have:=h.cls.o.1;omega
 refine ⟨κ',hb,⟨?_,?_,?_,h1.inp.fr f (by simp),h1.val.fr f (by simp),h1.rsn.fr f (by simp),h1.lvl.fr f (by simp),h1.rl,h1.ll,h1.tr.fr f (by simp),h1.st.fr f (by simp),h1.wat.fr f (by simp),fun l hl h0=>(h1.wt l hl h0).fr f (by simp),h1.B,h1.v3⟩,hv2,(Fr.alloc κ w o _).trans f⟩
 ·have:=hb.set_ 0 v'
  rw [wQ] at this
  exact this
 ·have:=k1.fr f2 (by simp)
  show Hold _ _ _ _ _ _ (e.cls++[cl]).length _
  rw [zJ]
  exact this
 ·intro c u hu
  rw [cl_app]
  by_cases e1:c=e.cls.length
  ·rw [if_pos e1]
   subst e1
   simp only at hu
   rw [←hus,zL (Nat.le_refl _)] at hu
   simp at hu
   subst hu
   exact hv2
  ·rw [if_neg e1]
   have hlt:c<V.us.length:=by
    have:=(zG.1 hu).1
    simp at this
    omega
   rw [zO hlt] at hu
   exact (h1.cl c u hu).fr f (by simp)
theorem EngM.pushInp (h:EngM κ w g t rest x e V) {v':Value} {i:Nat} {o:Obj} (ho:w'.ownsRow 0 3 1 v' (e.inp.length+1) (cn e.inp++[.int .i64 (i:Int)]))
  (hg:(w.alloc o).grownBy w' V.vi.ownBlock) (hat:v'.ownBlock=V.vi.ownBlock∨v'.ownBlock=some (w.alloc o).heap.size) :
  ∃κ',HB κ' w' .slv g t (V.cells e.val.length e.hd++rest).toArray∧EngM κ' (w'.setCell ⟨g,1,none⟩ v') g t rest x { e with inp:=e.inp++[i] } { V with vi:=v' }∧Fr κ κ' w (w'.setCell ⟨g,1,none⟩ v') (fun c=>c = .inp∨c = .slv):=by
 have h1:=h.alloc o
 obtain ⟨κ',k1,k2⟩:=h1.inp.app (S:=fun c=>c = .inp) ho hg hat rfl
 have hb:=h1.blk.fr k2 (by simp)
 have f2:Fr κ' κ' w' (w'.setCell ⟨g,1,none⟩ v') (fun c=>c = .slv):=Fr.set κ' w' hb.k rfl
 have f:Fr κ κ' (w.alloc o) (w'.setCell ⟨g,1,none⟩ v') (fun c=>c = .inp∨c = .slv):=(k2.mono fun s hs => .inl hs).trans (f2.mono fun s hs => .inr hs)
 refine ⟨κ',hb,⟨?_,h1.cls.fr f (by simp),fun c u hu=>(h1.cl c u hu).fr f (by simp),?_,h1.val.fr f (by simp),h1.rsn.fr f (by simp),h1.lvl.fr f (by simp),h1.rl,h1.ll,h1.tr.fr f (by simp),h1.st.fr f (by simp),h1.wat.fr f (by simp),fun l hl h0=>(h1.wt l hl h0).fr f (by simp),h1.B,h1.v3⟩,(Fr.alloc κ w o _).trans f⟩
 ·have:=hb.set_ 1 v'
  rw [wQ] at this
  exact this
 ·have:=k1.fr f2 (by simp)
  show Hold _ _ _ _ _ _ (e.inp++[i]).length (cn (e.inp++[i]))
  rw [nR,zJ]
  exact this
end
section
variable {κ:Kap} {w:World} {g:Nat} {t:TypeId} {rest:List Value} {x:Int} {e:Eng} {V:EV}
theorem EngM.cellR (h:EngM κ w g t rest x e V) {i:Nat} {u:Value} (hu:rest[i]? = some u):w.cell? ⟨g,9+i,none⟩=some u:=by
 rw [h.blk.cell,zA,zL (by simp [EV.cells])]
 simpa [EV.cells] using hu
theorem cells_hd (V:EV) (B hd y:Nat) (rest:List Value):(V.cells B hd++rest).set 8 (.int .i64 (y:Int))=V.cells B y++rest:=rfl
theorem EngM.setHd (h:EngM κ w g t rest x e V) (y:Nat):EngM κ (w.setCell ⟨g,8,none⟩ (.int .i64 (y:Int))) g t rest x { e with hd:=y } V:=by
 have f:=frs κ w (i:=8) (u := .int .i64 (y:Int)) h.blk.k
 refine ⟨?_,h.cls.fr f (by simp),fun c u hu=>(h.cl c u hu).fr f (by simp),h.inp.fr f (by simp),h.val.fr f (by simp),h.rsn.fr f (by simp),h.lvl.fr f (by simp),h.rl,h.ll,h.tr.fr f (by simp),h.st.fr f (by simp),h.wat.fr f (by simp),fun l hl h0=>(h.wt l hl h0).fr f (by simp),h.B,h.v3⟩
 have:=h.blk.set_ 8 (.int .i64 (y:Int))
 rw [wQ,cells_hd] at this
 exact this
end
def Arc.cells (a:Arc):List Value:=[.int .i64 a.lit, .int .i64 a.x, .int .i64 a.y, .int .i64 a.c]
def acs (l:List Arc):List Value:=l.flatMap Arc.cells
def aC (l:List (Nat × Int)):List Value:=l.flatMap fun p=>[.int .i64 (p.1:Int), .int .i64 p.2]
def cbs (xs:List Bool):List Value:=xs.map Value.bool
def ocs (o:Org) (p:Value × Value):List Value:=[.int .i64 o.leaf.kind, .int .i64 o.leaf.index,p.1, .int .i64 o.leaf.p, .int .i64 o.leaf.q, .int .i64 o.leaf.var, .int .i64 (o.first:Int),p.2]
def orgs (os:List Org) (ps:List (Value × Value)):List Value:=(os.zip ps).flatMap fun z=>ocs z.1 z.2
structure SV where
 ob:Value
 vn:Value
 ga:Nat
 sa:List Value
 gc:Nat
 fi:Int
 fb:Int
 av:Value
 cv:Value
 vo:Value
 ol:List (Value × Value)
 gu:Nat
 gy:Nat
def SV.rest (U:SV) (N B:Nat) (rst:Int):List Value :=
 [U.ob,U.vn, .slice (some ⟨U.ga,0,none⟩) N N, .slice (some ⟨U.gc,0,none⟩) B B, .int .i64 U.fi, .int .i64 U.fb,U.av,U.cv,U.vo, .slice (some ⟨U.gu,0,none⟩) B B, .slice (some ⟨U.gy,0,none⟩) B B, .int .i64 rst]
structure SolM (κ:Kap) (w:World) (g:Nat) (s:Sol) (V:EV) (U:SV):Prop where
 eng:EngM κ w g 89 (U.rest s.num.length s.e.val.length s.rst) 0 s.e V
 num:Hold κ w .num 3 1 U.vn s.num.length (ci s.num)
 arcs:HB κ w .arcs U.ga 139 U.sa.toArray
 al:U.sa.length=s.num.length
 aln:s.arcs.length=s.num.length
 ar:∀y u,U.sa[y]? = some u→Hold κ w (.ar y) 126 4 u (s.arcs.getD y []).length (acs (s.arcs.getD y []))
 act:HB κ w .act U.gc 4 (cbs s.act).toArray
 actl:s.act.length=s.e.val.length
 org:Hold κ w .org 94 8 U.vo s.org.length (orgs s.org U.ol)
 oll:U.ol.length=s.org.length
 och:∀c o p,s.org[c]? = some o→U.ol[c]? = some p→Hold κ w (.olt c) 3 1 p.1 o.leaf.lits.length (ci o.leaf.lits)∧Hold κ w (.och c) 115 2 p.2 o.chain.length (aC o.chain)
 unt:HB κ w .unt U.gu 3 (ci s.unt).toArray
 untl:s.unt.length=s.e.val.length
 acty:HB κ w .acty U.gy 3 (ci s.acty).toArray
 actyl:s.acty.length=s.e.val.length
 arl:∀y,∀a∈s.arcs.getD y [], -1048576≤a.lit∧a.lit≤1048576
def wO:Col→Prop
 | .tmp _=>False
 | _=>True
theorem dL {s:Col} (h:wK s):wO s:=by cases s<;>first|trivial|exact h
section
variable {κ κ':Kap} {w w':World} {g:Nat} {s:Sol} {V V':EV} {U:SV} {S:Col→Prop}
theorem HB.rc {c:Col} {k:Nat} {t:TypeId} {cs:Array Value} (h:HB κ w c k t cs) (hk:∀j,κ j=some c→κ' j=some c):HB κ' w c k t cs:=⟨h.b,hk _ h.k⟩
theorem Hold.rc {c:Col} {e:TypeId} {sz n:Nat} {v:Value} {xs:List Value} (h:Hold κ w c e sz v n xs) (hk:∀j,κ j=some c→κ' j=some c):Hold κ' w c e sz v n xs:=⟨h.o,fun k hv=>hk _ (h.k k hv)⟩
theorem MapC.rc {b B:Nat} {m:Int→Value} (h:MapC κ w b B m) (hk:∀j,κ j=some .wat→κ' j=some .wat):MapC κ' w b B m:=⟨h.d,hk _ h.k⟩
theorem EngM.rc {t:TypeId} {rest:List Value} {x:Int} {e:Eng} (h:EngM κ w g t rest x e V) (hk:∀c,wK c→∀j,κ j=some c→κ' j=some c):EngM κ' w g t rest x e V :=
 ⟨h.blk.rc (hk _ trivial),h.cls.rc (hk _ trivial),fun c u hu=>(h.cl c u hu).rc (hk _ trivial),h.inp.rc (hk _ trivial),h.val.rc (hk _ trivial),h.rsn.rc (hk _ trivial),h.lvl.rc (hk _ trivial),h.rl,h.ll,h.tr.rc (hk _ trivial),h.st.rc (hk _ trivial),h.wat.rc (hk _ trivial),fun l hl h0=>(h.wt l hl h0).rc (hk _ trivial),h.B,h.v3⟩
theorem SolM.rc (h:SolM κ w g s V U) (hk:∀c,wO c→∀j,κ j=some c→κ' j=some c):SolM κ' w g s V U :=
 ⟨h.eng.rc fun c hc=>hk c (dL hc),h.num.rc (hk _ trivial),h.arcs.rc (hk _ trivial),h.al,h.aln,fun y u hu=>(h.ar y u hu).rc (hk _ trivial),h.act.rc (hk _ trivial),h.actl,h.org.rc (hk _ trivial),h.oll,
  fun c o p ho hp=>⟨(h.och c o p ho hp).1.rc (hk _ trivial),(h.och c o p ho hp).2.rc (hk _ trivial)⟩,h.unt.rc (hk _ trivial),h.untl,h.acty.rc (hk _ trivial),h.actyl,h.arl⟩
theorem SolM.fr (h:SolM κ w g s V U) (f:Fr κ κ' w w' S) (hs:∀c,wO c→¬S c):SolM κ' w' g s V U :=
 ⟨h.eng.fr f fun c hc=>hs c (dL hc),h.num.fr f (hs _ trivial),h.arcs.fr f (hs _ trivial),h.al,h.aln,fun y u hu=>(h.ar y u hu).fr f (hs _ trivial),h.act.fr f (hs _ trivial),h.actl,h.org.fr f (hs _ trivial),h.oll,
  fun c o p ho hp=>⟨(h.och c o p ho hp).1.fr f (hs _ trivial),(h.och c o p ho hp).2.fr f (hs _ trivial)⟩,h.unt.fr f (hs _ trivial),h.untl,h.acty.fr f (hs _ trivial),h.actyl,h.arl⟩
theorem SolM.keep (h:SolM κ w g s V U) (hb:Below w.heap.size w w'):SolM κ w' g s V U:=h.fr (Fr.kept κ hb (fun _=>False)) fun _ _=>id
theorem SolM.alloc (h:SolM κ w g s V U) (o:Obj):SolM κ (w.alloc o) g s V U:=h.fr (Fr.alloc κ w o (fun _=>False)) fun _ _=>id
theorem SolM.drewN (h:SolM κ w g s V U) (n:Nat):SolM κ (w.drewN n) g s V U:=h.fr (Fr.drewN κ w n (fun _=>False)) fun _ _=>id
theorem SolM.withE (h:SolM κ w g s V U) {e:Eng} (f:Fr κ κ' w w' S) (hS:∀c,S c→wK c) (he:EngM κ' w' g 89 (U.rest s.num.length s.e.val.length s.rst) 0 e V') (hl:e.val.length=s.e.val.length):SolM κ' w' g { s with e:=e } V' U:=by
 have n1:∀c,¬wK c→¬S c:=fun c hc hs=>hc (hS c hs)
 exact ⟨by rw [←hl] at he;exact he,h.num.fr f (n1 _ id),h.arcs.fr f (n1 _ id),h.al,h.aln,fun y u hu=>(h.ar y u hu).fr f (n1 _ id),h.act.fr f (n1 _ id),h.actl.trans hl.symm,h.org.fr f (n1 _ id),h.oll,
  fun c o p ho hp=>⟨(h.och c o p ho hp).1.fr f (n1 _ id),(h.och c o p ho hp).2.fr f (n1 _ id)⟩,h.unt.fr f (n1 _ id),h.untl.trans hl.symm,h.acty.fr f (n1 _ id),h.actyl.trans hl.symm,h.arl⟩
theorem SolM.setVal (h:SolM κ w g s V U) (v:Nat) {y:Int} (hy:y=0∨y=1∨y = -1):SolM κ (w.setCell ⟨V.gv,v,none⟩ (.int .i8 y)) g { s with e:={ s.e with val:=s.e.val.set v y } } V U :=
 h.withE (frs κ w h.eng.val.k) (fun c hc=>by subst hc;trivial) (h.eng.setVal v hy) (by simp)
theorem SolM.setRsn (h:SolM κ w g s V U) (v:Nat) (y:Int):SolM κ (w.setCell ⟨V.gr,v,none⟩ (.int .i64 y)) g { s with e:={ s.e with rsn:=s.e.rsn.set v y } } V U :=
 h.withE (frs κ w h.eng.rsn.k) (fun c hc=>by subst hc;trivial) (h.eng.setRsn v y) rfl
theorem EngM.setRest {t:TypeId} {rest:List Value} {x:Int} {e:Eng} (h:EngM κ w g t rest x e V) (i:Nat) (v:Value):EngM κ (w.setCell ⟨g,9+i,none⟩ v) g t (rest.set i v) x e V:=by
 have f:=frs κ w (i:=9+i) (u:=v) h.blk.k
 refine ⟨?_,h.cls.fr f (by simp),fun c u hu=>(h.cl c u hu).fr f (by simp),h.inp.fr f (by simp),h.val.fr f (by simp),h.rsn.fr f (by simp),h.lvl.fr f (by simp),h.rl,h.ll,h.tr.fr f (by simp),h.st.fr f (by simp),h.wat.fr f (by simp),fun l hl h0=>(h.wt l hl h0).fr f (by simp),h.B,h.v3⟩
 have:=h.blk.set_ (9+i) v
 rw [wQ,kL _ _ (by simp [EV.cells])] at this
 simpa [EV.cells] using this
theorem SolM.others (h:SolM κ w g s V U) (f:Fr κ κ' w w' (fun c=>c = .slv)) {U':SV} {r:Int} (he:EngM κ' w' g 89 (U'.rest s.num.length s.e.val.length r) 0 s.e V') (hU:U'.vn=U.vn∧U'.ga=U.ga∧U'.sa=U.sa∧U'.gc=U.gc∧U'.vo=U.vo∧U'.ol=U.ol∧U'.gu=U.gu∧U'.gy=U.gy):SolM κ' w' g { s with rst:=r } V' U':=by
 obtain ⟨ob,vn,ga,sa,gc,fi,fb,av,cv,vo,ol,gu,gy⟩:=U
 obtain ⟨ob',vn',ga',sa',gc',fi',fb',av',cv',vo',ol',gu',gy'⟩:=U'
 obtain ⟨h1,h2,h3,h4,h5,h6,h7,h8⟩:=hU
 simp only at h1 h2 h3 h4 h5 h6 h7 h8
 subst h1 h2 h3 h4 h5 h6 h7 h8
 exact ⟨he,h.num.fr f (by simp),h.arcs.fr f (by simp),h.al,h.aln,fun y u hu=>(h.ar y u hu).fr f (by simp),h.act.fr f (by simp),h.actl,h.org.fr f (by simp),h.oll,
  fun c o p ho hp=>⟨(h.och c o p ho hp).1.fr f (by simp),(h.och c o p ho hp).2.fr f (by simp)⟩,h.unt.fr f (by simp),h.untl,h.acty.fr f (by simp),h.actyl,h.arl⟩
theorem SolM.setRst (h:SolM κ w g s V U) (r:Int):SolM κ (w.setCell ⟨g,20,none⟩ (.int .i64 r)) g { s with rst:=r } V U :=
 h.others (frs κ w h.eng.blk.k) (h.eng.setRest 11 (.int .i64 r)) ⟨rfl,rfl,rfl,rfl,rfl,rfl,rfl,rfl⟩
theorem eD (xs:List Bool) (i:Nat) (y:Bool):cbs (xs.set i y)=(cbs xs).set i (.bool y):=by simp [cbs,List.map_set]
theorem SolM.setAct (h:SolM κ w g s V U) (v:Nat) (b:Bool):SolM κ (w.setCell ⟨U.gc,v,none⟩ (.bool b)) g { s with act:=s.act.set v b } V U:=by
 have f:=frs κ w (i:=v) (u := .bool b) h.act.k
 refine ⟨h.eng.fr f fun c hc e=>by subst e;exact hc,h.num.fr f (by simp),h.arcs.fr f (by simp),h.al,h.aln,fun y u hu=>(h.ar y u hu).fr f (by simp),?_,by simp [h.actl],h.org.fr f (by simp),h.oll,
  fun c o p ho hp=>⟨(h.och c o p ho hp).1.fr f (by simp),(h.och c o p ho hp).2.fr f (by simp)⟩,h.unt.fr f (by simp),h.untl,h.acty.fr f (by simp),h.actyl,h.arl⟩
 have:=h.act.set_ v (.bool b)
 rw [wQ] at this
 show HB _ _ _ _ _ (cbs (s.act.set v b)).toArray
 rw [eD];exact this
theorem SolM.setUnt (h:SolM κ w g s V U) (v:Nat) (y:Int):SolM κ (w.setCell ⟨U.gu,v,none⟩ (.int .i64 y)) g { s with unt:=s.unt.set v y } V U:=by
 have f:=frs κ w (i:=v) (u := .int .i64 y) h.unt.k
 refine ⟨h.eng.fr f fun c hc e=>by subst e;exact hc,h.num.fr f (by simp),h.arcs.fr f (by simp),h.al,h.aln,fun y u hu=>(h.ar y u hu).fr f (by simp),h.act.fr f (by simp),h.actl,h.org.fr f (by simp),h.oll,
  fun c o p ho hp=>⟨(h.och c o p ho hp).1.fr f (by simp),(h.och c o p ho hp).2.fr f (by simp)⟩,?_,by simp [h.untl],h.acty.fr f (by simp),h.actyl,h.arl⟩
 have:=h.unt.set_ v (.int .i64 y)
 rw [wQ] at this
 show HB _ _ _ _ _ (ci (s.unt.set v y)).toArray
 rw [bN];exact this
theorem SolM.setActy (h:SolM κ w g s V U) (v:Nat) (y:Int):SolM κ (w.setCell ⟨U.gy,v,none⟩ (.int .i64 y)) g { s with acty:=s.acty.set v y } V U:=by
 have f:=frs κ w (i:=v) (u := .int .i64 y) h.acty.k
 refine ⟨h.eng.fr f fun c hc e=>by subst e;exact hc,h.num.fr f (by simp),h.arcs.fr f (by simp),h.al,h.aln,fun y u hu=>(h.ar y u hu).fr f (by simp),h.act.fr f (by simp),h.actl,h.org.fr f (by simp),h.oll,
  fun c o p ho hp=>⟨(h.och c o p ho hp).1.fr f (by simp),(h.och c o p ho hp).2.fr f (by simp)⟩,h.unt.fr f (by simp),h.untl,?_,by simp [h.actyl],h.arl⟩
 have:=h.acty.set_ v (.int .i64 y)
 rw [wQ] at this
 show HB _ _ _ _ _ (ci (s.acty.set v y)).toArray
 rw [bN];exact this
theorem SolM.setNum (h:SolM κ w g s V U) {gn cap:Nat} (hv:U.vn = .slice (some ⟨gn,0,none⟩) s.num.length cap) (i:Nat) (y:Int):SolM κ (w.setCell ⟨gn,i,none⟩ (.int .i64 y)) g { s with num:=s.num.set i y } V U:=by
 have hk:κ gn=some .num:=h.num.k gn (by rw [hv];rfl)
 have f:=frs κ w (i:=i) (u := .int .i64 y) hk
 have hh:=h.num
 rw [hv] at hh
 refine ⟨?_,?_,h.arcs.fr f (by simp),by simp [h.al],by simp [h.aln],fun y u hu=>(h.ar y u hu).fr f (by simp),h.act.fr f (by simp),h.actl,h.org.fr f (by simp),h.oll,
  fun c o p ho hp=>⟨(h.och c o p ho hp).1.fr f (by simp),(h.och c o p ho hp).2.fr f (by simp)⟩,h.unt.fr f (by simp),h.untl,h.acty.fr f (by simp),h.actyl,h.arl⟩
 ·have:=h.eng.fr f fun c hc e=>by subst e;exact hc
  simpa using this
 ·have:=hh.set_ i (.int .i64 y)
  show Hold _ _ _ _ _ _ (s.num.set i y).length (ci (s.num.set i y))
  rw [bN,zX,hv];exact this
theorem SolM.putNum (h:SolM κ w g s V U) {v:Value} {num:List Int} (hl:num.length=s.num.length) (hn:Hold κ w .num 3 1 v num.length (ci num)):SolM κ (w.setCell ⟨g,10,none⟩ v) g { s with num:=num } V { U with vn:=v }:=by
 have f:=frs κ w (i:=10) (u:=v) h.eng.blk.k
 refine ⟨?_,hn.fr f (by simp),h.arcs.fr f (by simp),by simp [h.al,hl],by simp [h.aln,hl],fun y u hu=>(h.ar y u hu).fr f (by simp),h.act.fr f (by simp),h.actl,h.org.fr f (by simp),h.oll,
  fun c o p ho hp=>⟨(h.och c o p ho hp).1.fr f (by simp),(h.och c o p ho hp).2.fr f (by simp)⟩,h.unt.fr f (by simp),h.untl,h.acty.fr f (by simp),h.actyl,h.arl⟩
 have:=h.eng.setRest 1 v
 simp only [hl]
 exact this
theorem mW {xs:List (List Arc)} {i j:Nat} {a:List Arc} (h:i<xs.length):(xs.set i a).getD j []=if j=i then a else xs.getD j []:=by
 rw [List.getD_eq_getElem?_getD,List.getD_eq_getElem?_getD,kM]
 by_cases e:j=i
 ·subst e;simp [h]
 ·rw [if_neg (fun e'=>e e'.symm),if_neg e]
theorem SolM.putAr (h:SolM κ w g s V U) {y:Nat} (f:Fr κ κ' w w' (fun c=>c = .ar y)) {v:Value} {l:List Arc} (hy:y<s.num.length) (hn:Hold κ' w' (.ar y) 126 4 v l.length (acs l)) (hal:∀a∈l, -1048576≤a.lit∧a.lit≤1048576) :
  SolM κ' (w'.setCell ⟨U.ga,y,none⟩ v) g { s with arcs:=s.arcs.set y l } V { U with sa:=U.sa.set y v }∧Fr κ κ' w (w'.setCell ⟨U.ga,y,none⟩ v) (fun c=>c = .arcs∨c = .ar y):=by
 have ha:=h.arcs.fr f (by simp)
 have f2:=frs κ' w' (i:=y) (u:=v) ha.k
 have f3:Fr κ κ' w (w'.setCell ⟨U.ga,y,none⟩ v) (fun c=>c = .arcs∨c = .ar y):=(f.mono fun _ e => .inr e).trans (f2.mono fun _ e => .inl e)
 refine ⟨⟨h.eng.fr f3 fun c hc e=>by rcases e with rfl|rfl<;>exact hc,h.num.fr f3 (by simp),?_,by simp [h.al],by simp [h.aln],fun z u hu => ?_,h.act.fr f3 (by simp),h.actl,h.org.fr f3 (by simp),h.oll,
  fun c o p ho hp=>⟨(h.och c o p ho hp).1.fr f3 (by simp),(h.och c o p ho hp).2.fr f3 (by simp)⟩,h.unt.fr f3 (by simp),h.untl,h.acty.fr f3 (by simp),h.actyl,fun z a ha => ?_⟩,f3⟩
 ·have:=ha.set_ y v
  rw [wQ] at this
  exact this
 ·simp only [kM] at hu
  show Hold _ _ _ _ _ _ ((s.arcs.set y l).getD z []).length (acs ((s.arcs.set y l).getD z []))
  rw [mW (by rw [h.aln];exact hy)]
  by_cases e:z=y
  ·subst e
   rw [if_pos rfl]
   rw [if_pos rfl,if_pos (by rw [h.al];exact hy)] at hu
   injection hu with hu
   subst hu
   exact hn.fr f2 (by simp)
  ·rw [if_neg e]
   rw [if_neg (fun e'=>e e'.symm)] at hu
   exact (h.ar z u hu).fr f3 (by simp [e])
 ·have ha2:a∈(s.arcs.set y l).getD z []:=ha
  rw [mW (by rw [h.aln];exact hy)] at ha2
  split at ha2
  ·exact hal a ha2
  ·exact h.arl z a ha2
theorem zip_app {α β:Type} {xs:List α} {ys:List β} (h:ys.length=xs.length) (x:α) (y:β):(xs++[x]).zip (ys++[y])=xs.zip ys++[(x,y)]:=by
 rw [List.zip_append h.symm];rfl
theorem orgs_app {os:List Org} {ps:List (Value × Value)} (h:ps.length=os.length) (o:Org) (p:Value × Value):orgs (os++[o]) (ps++[p])=orgs os ps++ocs o p:=by
 unfold orgs;rw [zip_app h];simp
theorem SolM.pushOrg (h:SolM κ w g s V U) (f:Fr κ κ' w w' (fun c=>c = .org)) {v:Value} {o:Org} {p:Value × Value} (ho:Hold κ' w' .org 94 8 v (s.org.length+1) (orgs s.org U.ol++ocs o p))
  (h1:Hold κ' w' (.olt s.org.length) 3 1 p.1 o.leaf.lits.length (ci o.leaf.lits)) (h2:Hold κ' w' (.och s.org.length) 115 2 p.2 o.chain.length (aC o.chain)) :
  SolM κ' (w'.setCell ⟨g,17,none⟩ v) g { s with org:=s.org++[o] } V { U with vo:=v,ol:=U.ol++[p] }∧Fr κ κ' w (w'.setCell ⟨g,17,none⟩ v) (fun c=>c = .org∨c = .slv):=by
 have he:=h.eng.fr f fun c hc e=>by subst e;exact hc
 have f2:=frs κ' w' (i:=17) (u:=v) he.blk.k
 have f3:Fr κ κ' w (w'.setCell ⟨g,17,none⟩ v) (fun c=>c = .org∨c = .slv):=(f.mono fun _ e => .inl e).trans (f2.mono fun _ e => .inr e)
 refine ⟨⟨he.setRest 8 v,h.num.fr f3 (by simp),h.arcs.fr f3 (by simp),h.al,h.aln,fun y u hu=>(h.ar y u hu).fr f3 (by simp),h.act.fr f3 (by simp),h.actl,?_,by simp [h.oll],
  fun c o' p' ho' hp' => ?_,h.unt.fr f3 (by simp),h.untl,h.acty.fr f3 (by simp),h.actyl,h.arl⟩,f3⟩
 ·have:=ho.fr f2 (by simp)
  show Hold _ _ _ _ _ _ (s.org++[o]).length (orgs (s.org++[o]) (U.ol++[p]))
  rw [orgs_app h.oll,zJ]
  exact this
 ·simp only at ho' hp'
  rcases xJ c s.org.length with hc|hc|hc
  ·rw [zO hc] at ho'
   rw [zO (by rw [h.oll];exact hc)] at hp'
   exact ⟨(h.och c o' p' ho' hp').1.fr f3 (by simp),(h.och c o' p' ho' hp').2.fr f3 (by simp)⟩
  ·subst hc
   rw [zL (Nat.le_refl _),xX] at ho'
   rw [zL (by rw [h.oll];exact Nat.le_refl _),h.oll,xX] at hp'
   simp at ho' hp'
   subst ho' hp'
   exact ⟨h1.fr f2 (by simp),h2.fr f2 (by simp)⟩
  ·rw [List.getElem?_eq_none (by simp;omega)] at ho'
   cases ho'
def SV.same (U U':SV):Prop:=U'.ob=U.ob∧U'.fi=U.fi∧U'.fb=U.fb∧U'.av=U.av∧U'.cv=U.cv∧U'.ga=U.ga∧U'.gc=U.gc∧U'.gu=U.gu∧U'.gy=U.gy
theorem SV.same.refl (U:SV):U.same U:=⟨rfl,rfl,rfl,rfl,rfl,rfl,rfl,rfl,rfl⟩
theorem SV.same.trans {U1 U2 U3:SV} (h:U1.same U2) (k:U2.same U3):U1.same U3:=⟨k.1.trans h.1,k.2.1.trans h.2.1,k.2.2.1.trans h.2.2.1,k.2.2.2.1.trans h.2.2.2.1,k.2.2.2.2.1.trans h.2.2.2.2.1,k.2.2.2.2.2.1.trans h.2.2.2.2.2.1,k.2.2.2.2.2.2.1.trans h.2.2.2.2.2.2.1,k.2.2.2.2.2.2.2.1.trans h.2.2.2.2.2.2.2.1,k.2.2.2.2.2.2.2.2.trans h.2.2.2.2.2.2.2.2⟩
def wP (κ:Kap) (w:World) (g:Nat) (U0:SV) (S:Col→Prop) (r:Value) (s:Sol) (en:Ending) (w':World):Prop :=
 en = .returned r∧∃κ' V' U',SolM κ' w' g s V' U'∧Fr κ κ' w w' S∧U0.same U'
end
end Go.Proofs.Yticieifacalocaa
