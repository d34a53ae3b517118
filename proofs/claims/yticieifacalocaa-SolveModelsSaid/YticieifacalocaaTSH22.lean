/- SolEng SolEng2 -/
import Derived.Test.YticieifacalocaaTSH21
namespace Go.Proofs.Yticieifacalocaa
open Go.RowKit
structure EV where
 vc:Value
 vi:Value
 vt:Value
 vs:Value
 gv:Nat
 gr:Nat
 gl:Nat
 bm:Nat
 us:List Value
 mv:Int→Value
def EV.cells (V:EV) (B hd:Nat):List Value :=
 [V.vc,V.vi, .map (some V.bm), .slice (some ⟨V.gv,0,none⟩) B B, .slice (some ⟨V.gr,0,none⟩) B B, .slice (some ⟨V.gl,0,none⟩) B B,V.vt,V.vs, .int .i64 hd]
def c8 (xs:List Int):List Value:=xs.map (Value.int .i8)
theorem c8_at {xs:List Int} {k:Nat} {x:Int} (h:xs[k]? = some x):(c8 xs)[k]? = some (.int .i8 x):=by unfold c8;rw [List.getElem?_map,h];rfl
structure EngM (κ:Kap) (w:World) (g:Nat) (t:TypeId) (rest:List Value) (x:Int) (e:Eng) (V:EV):Prop where
 blk:HB κ w .slv g t (V.cells e.val.length e.hd++rest).toArray
 cls:Hold κ w .cls 33 1 V.vc e.cls.length V.us
 cl:∀c u,V.us[c]? = some u→Hold κ w (.cl c) 3 1 u (e.cl c).length (ci (e.cl c))
 inp:Hold κ w .inp 3 1 V.vi e.inp.length (cn e.inp)
 val:HB κ w .val V.gv 48 (c8 e.val).toArray
 rsn:HB κ w .rsn V.gr 3 (ci e.rsn).toArray
 lvl:HB κ w .lvl V.gl 3 (ci e.lvl).toArray
 rl:e.rsn.length=e.val.length
 ll:e.lvl.length=e.val.length
 tr:Hold κ w .tr 3 1 V.vt e.tr.length (ci e.tr)
 st:Hold κ w .st 3 1 V.vs e.st.length (cn e.st)
 wat:MapC κ w V.bm e.val.length V.mv
 wt:∀l,l≠x→l≠0→Hold κ w (.wt l) 3 1 (V.mv l) (e.wat l).length (cn (e.wat l))
 B:e.val.length≤1024
 v3:∀i,e.val.getD i 0=0∨e.val.getD i 0=1∨e.val.getD i 0 = -1
def wK:Col→Prop
 | .slv | .cls | .inp | .wat | .val | .rsn | .lvl | .tr | .st | .cl _ | .wt _=>True
 | _=>False
section
variable {κ κ':Kap} {w w':World} {g:Nat} {t:TypeId} {rest:List Value} {x:Int} {e:Eng} {V:EV} {S:Col→Prop}
theorem EngM.fr (h:EngM κ w g t rest x e V) (f:Fr κ κ' w w' S) (hs:∀s,wK s→¬S s):EngM κ' w' g t rest x e V :=
 ⟨h.blk.fr f (hs _ trivial),h.cls.fr f (hs _ trivial),fun c u hu=>(h.cl c u hu).fr f (hs _ trivial),h.inp.fr f (hs _ trivial),h.val.fr f (hs _ trivial),h.rsn.fr f (hs _ trivial),h.lvl.fr f (hs _ trivial),h.rl,h.ll,
  h.tr.fr f (hs _ trivial),h.st.fr f (hs _ trivial),h.wat.fr f (hs _ trivial),fun l hl h0=>(h.wt l hl h0).fr f (hs _ trivial),h.B,h.v3⟩
theorem EngM.keep (h:EngM κ w g t rest x e V) (hb:Below w.heap.size w w'):EngM κ w' g t rest x e V:=h.fr (Fr.kept κ hb (fun _=>False)) fun _ _=>id
theorem EngM.alloc (h:EngM κ w g t rest x e V) (o:Obj):EngM κ (w.alloc o) g t rest x e V:=h.fr (Fr.alloc κ w o (fun _=>False)) fun _ _=>id
theorem EngM.drewN (h:EngM κ w g t rest x e V) (n:Nat):EngM κ (w.drewN n) g t rest x e V:=h.fr (Fr.drewN κ w n (fun _=>False)) fun _ _=>id
theorem EngM.cellE (h:EngM κ w g t rest x e V) {i:Nat} {u:Value} (hu:(V.cells e.val.length e.hd)[i]? = some u):w.cell? ⟨g,i,none⟩=some u:=by
 rw [h.blk.cell,zA,zO ((zG.1 hu).1)];exact hu
theorem EngM.frz (h:EngM κ w g t rest x e V) (i:Nat):w.frozen? ⟨g,i,none⟩=false:=h.blk.frozen i
theorem getD_at {xs:List Int} {k:Nat} (h:k<xs.length):xs[k]? = some (xs.getD k 0):=by rw [List.getD_eq_getElem?_getD,List.getElem?_eq_getElem h];rfl
theorem EngM.valAt (h:EngM κ w g t rest x e V) {v:Nat} (hv:v<e.val.length):w.cell? ⟨V.gv,v,none⟩=some (.int .i8 (e.val.getD v 0)):=by
 rw [h.val.cell,zA];exact c8_at (getD_at hv)
theorem EngM.rsnAt (h:EngM κ w g t rest x e V) {v:Nat} (hv:v<e.val.length):w.cell? ⟨V.gr,v,none⟩=some (.int .i64 (e.rsn.getD v 0)):=by
 rw [h.rsn.cell,zA];exact wU (getD_at (by rw [h.rl];exact hv))
theorem EngM.lvlAt (h:EngM κ w g t rest x e V) {v:Nat} (hv:v<e.val.length):w.cell? ⟨V.gl,v,none⟩=some (.int .i64 (e.lvl.getD v 0)):=by
 rw [h.lvl.cell,zA];exact wU (getD_at (by rw [h.ll];exact hv))
end
theorem wN {B:Nat} {l:Int} (h:litB B l=true):l≠0∧vr l<B:=kP h
set_option maxRecDepth 100000 in
theorem gI (l:Int) (h0:l≠0) (h1 : -1048576≤l) (h2:l≤1048576) (w:World) :
  Calls Try.prog 64 #[.int .i64 l] w fun e w'=>e = .returned (.int .i64 (vr l:Nat))∧w=w':=by
 rcases uB h0 with hl|hl
 ·have hb:decide (l<0)=true:=by simpa using hl
  go_enter Try.func64,Try.ntmps64
  go_wp2
  go_ret
  exact ⟨cL (by unfold vr;omega),rfl⟩
 ·have hb:decide (l<0)=false:=by simp;omega
  go_enter Try.func64,Try.ntmps64
  go_wp2
  go_ret
  exact ⟨cL (by unfold vr;omega),rfl⟩
section
variable {κ:Kap} {w:World} {g:Nat} {t:TypeId} {rest:List Value} {x:Int} {e:Eng} {V:EV}
set_option maxRecDepth 100000 in
set_option maxHeartbeats 1000000 in
theorem dN (h:EngM κ w g t rest x e V) {l:Int} (hl:litB e.val.length l=true) :
  Calls Try.prog 46 #[.pointer (some ⟨g,0,none⟩), .int .i64 l] w fun en w'=>en = .returned (.int .i8 (tv e.val l))∧∃n,w'=w.drewN n:=by
 obtain ⟨l0,l1⟩:=wN hl
 have hi:=wZ (by have:=h.B;omega) hl
 have q3:=h.cellE (i:=3) rfl
 have qv:=h.valAt l1
 have HV:Hid (∀m,Calls Try.prog 64 #[.int .i64 l] (w.drewN m) fun e w'=>e = .returned (.int .i64 (vr l:Nat))∧w'=w.drewN m):=fun m=>(gI l l0 hi.1 hi.2 (w.drewN m)).mono fun e w' hh=>⟨hh.1,hh.2.symm⟩
 have y3:((vr l:Nat):Int)<(e.val.length:Int):=by omega
 have y4:IntKind.i8.wrap (-(e.val.getD (vr l) 0)) = -(e.val.getD (vr l) 0):=by rcases h.v3 (vr l) with h0|h0|h0<;>rw [h0]<;>rfl
 generalize hvr:vr l=v at *
 generalize hx:e.val.getD v 0=y at *
 have HTV:Hid (tv e.val l=if l<0 then -y else y):=by refine Lib.hid ?_;unfold tv;rw [hvr,hx]
 clear h hl hi hvr hx
 rcases uB l0 with hlt|hlt
 ·have hb:decide (l<0)=true:=by simpa using hlt
  go_enter Try.func46,Try.ntmps46
  go_wp2
  go_quiet ((go_at_call 64;exact vW (HV.out _)))
  go_wp2
  go_ret
  exact ⟨by rw [HTV.out,if_pos hlt];rfl,_,rfl⟩
 ·have hb:decide (l<0)=false:=by simp;omega
  go_enter Try.func46,Try.ntmps46
  go_wp2
  go_quiet ((go_at_call 64;exact vW (HV.out _)))
  go_wp2
  go_ret
  exact ⟨by rw [HTV.out,if_neg (by omega)];rfl,_,rfl⟩
end
section
variable {κ κ':Kap} {w w':World} {g:Nat} {t:TypeId} {rest:List Value} {x:Int} {e:Eng} {V:EV}
theorem wQ (xs:List Value) (i:Nat) (u:Value):xs.toArray.setIfInBounds i u=(xs.set i u).toArray:=by simp
theorem c8_set (xs:List Int) (i:Nat) (y:Int):c8 (xs.set i y)=(c8 xs).set i (.int .i8 y):=by simp [c8,List.map_set]
theorem bN (xs:List Int) (i:Nat) (y:Int):ci (xs.set i y)=(ci xs).set i (.int .i64 y):=by simp [ci,List.map_set]
theorem cE (xs:List Int) (y:Int):ci (xs++[y])=ci xs++[.int .i64 y]:=by simp [ci]
theorem nR (xs:List Nat) (y:Nat):cn (xs++[y])=cn xs++[.int .i64 (y:Int)]:=by simp [cn]
theorem frs {s:Col} (κ:Kap) (w:World) {k i:Nat} {u:Value} (hk:κ k=some s):Fr κ κ w (w.setCell ⟨k,i,none⟩ u) (fun c=>c=s):=Fr.set κ w hk rfl
theorem EngM.setVal (h:EngM κ w g t rest x e V) (v:Nat) {y:Int} (hy:y=0∨y=1∨y = -1):EngM κ (w.setCell ⟨V.gv,v,none⟩ (.int .i8 y)) g t rest x { e with val:=e.val.set v y } V:=by
 have f:=frs κ w (i:=v) (u := .int .i8 y) h.val.k
 refine ⟨?_,h.cls.fr f (by simp),fun c u hu=>(h.cl c u hu).fr f (by simp),h.inp.fr f (by simp),?_,h.rsn.fr f (by simp),h.lvl.fr f (by simp),by simp [h.rl],by simp [h.ll],h.tr.fr f (by simp),h.st.fr f (by simp),?_,fun l hl h0=>(h.wt l hl h0).fr f (by simp),by simp [h.B],fun i => ?_⟩
 ·have:=h.blk.fr f (by simp)
  simpa using this
 ·have:=h.val.set_ v (.int .i8 y)
  rw [wQ] at this
  show HB _ _ _ _ _ (c8 (e.val.set v y)).toArray
  rw [c8_set];exact this
 ·have:=h.wat.fr f (by simp)
  simpa using this
 ·show (e.val.set v y).getD i 0=0∨_
  by_cases hlt:v<e.val.length
  ·rw [wG _ _ _ _ _ hlt]
   split
   ·exact hy
   ·exact h.v3 i
  ·rw [List.set_eq_of_length_le (by omega)];exact h.v3 i
theorem EngM.setRsn (h:EngM κ w g t rest x e V) (v:Nat) (y:Int):EngM κ (w.setCell ⟨V.gr,v,none⟩ (.int .i64 y)) g t rest x { e with rsn:=e.rsn.set v y } V:=by
 have f:=frs κ w (i:=v) (u := .int .i64 y) h.rsn.k
 refine ⟨h.blk.fr f (by simp),h.cls.fr f (by simp),fun c u hu=>(h.cl c u hu).fr f (by simp),h.inp.fr f (by simp),h.val.fr f (by simp),?_,h.lvl.fr f (by simp),by simp [h.rl],h.ll,h.tr.fr f (by simp),h.st.fr f (by simp),h.wat.fr f (by simp),fun l hl h0=>(h.wt l hl h0).fr f (by simp),h.B,h.v3⟩
 have:=h.rsn.set_ v (.int .i64 y)
 rw [wQ] at this
 show HB _ _ _ _ _ (ci (e.rsn.set v y)).toArray
 rw [bN];exact this
theorem EngM.setLvl (h:EngM κ w g t rest x e V) (v:Nat) (y:Int):EngM κ (w.setCell ⟨V.gl,v,none⟩ (.int .i64 y)) g t rest x { e with lvl:=e.lvl.set v y } V:=by
 have f:=frs κ w (i:=v) (u := .int .i64 y) h.lvl.k
 refine ⟨h.blk.fr f (by simp),h.cls.fr f (by simp),fun c u hu=>(h.cl c u hu).fr f (by simp),h.inp.fr f (by simp),h.val.fr f (by simp),h.rsn.fr f (by simp),?_,h.rl,by simp [h.ll],h.tr.fr f (by simp),h.st.fr f (by simp),h.wat.fr f (by simp),fun l hl h0=>(h.wt l hl h0).fr f (by simp),h.B,h.v3⟩
 have:=h.lvl.set_ v (.int .i64 y)
 rw [wQ] at this
 show HB _ _ _ _ _ (ci (e.lvl.set v y)).toArray
 rw [bN];exact this
theorem cells_set (V:EV) (B hd:Nat) (rest:List Value):((V.cells B hd++rest).set 6=fun v=>({ V with vt:=v }:EV).cells B hd++rest)∧((V.cells B hd++rest).set 7=fun v=>({ V with vs:=v }:EV).cells B hd++rest) ∧
  ((V.cells B hd++rest).set 0=fun v=>({ V with vc:=v }:EV).cells B hd++rest)∧((V.cells B hd++rest).set 1=fun v=>({ V with vi:=v }:EV).cells B hd++rest):=⟨rfl,rfl,rfl,rfl⟩
theorem EngM.pushTr (h:EngM κ w g t rest x e V) {l:Int} {v':Value} {o:Obj} (ho:w'.ownsRow 0 3 1 v' (e.tr.length+1) (ci e.tr++[.int .i64 l])) (hg:(w.alloc o).grownBy w' V.vt.ownBlock) (hat:v'.ownBlock=V.vt.ownBlock∨v'.ownBlock=some (w.alloc o).heap.size) :
  ∃κ',HB κ' w' .slv g t (V.cells e.val.length e.hd++rest).toArray∧EngM κ' (w'.setCell ⟨g,6,none⟩ v') g t rest x { e with tr:=e.tr++[l] } { V with vt:=v' }∧Fr κ κ' w (w'.setCell ⟨g,6,none⟩ v') (fun c=>c = .tr∨c = .slv):=by
 have h1:=h.alloc o
 obtain ⟨κ',k1,k2⟩:=h1.tr.app (S:=fun c=>c = .tr) ho hg hat rfl
 have hb:=h1.blk.fr k2 (by simp)
 have f2:Fr κ' κ' w' (w'.setCell ⟨g,6,none⟩ v') (fun c=>c = .slv):=Fr.set κ' w' hb.k rfl
 have f:Fr κ κ' (w.alloc o) (w'.setCell ⟨g,6,none⟩ v') (fun c=>c = .tr∨c = .slv):=(k2.mono fun s hs => .inl hs).trans (f2.mono fun s hs => .inr hs)
 refine ⟨κ',hb,⟨?_,h1.cls.fr f (by simp),fun c u hu=>(h1.cl c u hu).fr f (by simp),h1.inp.fr f (by simp),h1.val.fr f (by simp),h1.rsn.fr f (by simp),h1.lvl.fr f (by simp),h1.rl,h1.ll,?_,h1.st.fr f (by simp),h1.wat.fr f (by simp),fun l hl h0=>(h1.wt l hl h0).fr f (by simp),h1.B,h1.v3⟩,(Fr.alloc κ w o _).trans f⟩
 ·have:=hb.set_ 6 v'
  rw [wQ,(cells_set V _ _ rest).1] at this
  exact this
 ·have:=k1.fr f2 (by simp)
  show Hold _ _ _ _ _ _ (e.tr++[l]).length (ci (e.tr++[l]))
  rw [cE,zJ]
  exact this
end
section
variable {κ:Kap} {w:World} {g:Nat} {t:TypeId} {rest:List Value} {x:Int} {e:Eng} {V:EV}
def fP (κ:Kap) (w:World) (g:Nat) (t:TypeId) (rest:List Value) (x:Int) (S:Col→Prop) (r:Value) (e:Eng) (en:Ending) (w':World):Prop :=
 en = .returned r∧∃κ' V',EngM κ' w' g t rest x e V'∧Fr κ κ' w w' S
def eH (κ:Kap) (w:World) (g:Nat) (t:TypeId) (rest:List Value) (x:Int) (S:Col→Prop) (r:Value) (V:EV) (e:Eng) (en:Ending) (w':World):Prop :=
 en = .returned r∧∃κ' V',EngM κ' w' g t rest x e V'∧Fr κ κ' w w' S∧V'.mv=V.mv∧V'.us=V.us
def cQ:Col→Prop
 | .slv | .val | .rsn | .lvl | .tr=>True
 | _=>False
theorem gY {s:Col} (h:cQ s):wK s:=by cases s<;>first|trivial|exact h
set_option maxRecDepth 100000 in
set_option maxHeartbeats 2000000 in
theorem gO (h:EngM κ w g t rest x e V) {l r:Int} (hl:litB e.val.length l=true) (ht:e.tr.length<LIM) :
  Calls Try.prog 47 #[.pointer (some ⟨g,0,none⟩), .int .i64 l, .int .i64 r] w (eH κ w g t rest x cQ (.tuple #[]) V (e.assign l r)):=by
 obtain ⟨iI,hiI,hzI0,hzI1,hzI2⟩:=qD wV
 obtain ⟨vc,vi,vt,vs,gv,gr,gl,bm,us,mv⟩:=V
 obtain ⟨l0,l1⟩:=wN hl
 have hi:=wZ (by have:=h.B;omega) hl
 obtain ⟨At,ct,hvt, -, -⟩:=h.tr.shape
 obtain ⟨As,cs,hvs, -, -⟩:=h.st.shape
 simp only at hvt hvs
 subst hvt hvs
 have HV:=Lib.hid (fun W=>gI l l0 hi.1 hi.2 W)
 have H1:=Lib.hid (h.setVal (vr l) (y:=1) (by simp))
 have y3:((vr l:Nat):Int)<(e.val.length:Int):=by omega
 have q3:=h.cellE (i:=3) rfl
 have qv:=h.valAt l1
 have zv:=h.val.frozen (vr l)
 generalize hvr:vr l=v at *
 have HF1:Hid (Fr κ κ w (w.setCell ⟨gv,v,none⟩ (.int .i8 1)) cQ):=(frs κ w h.val.k).mono fun s hs=>by subst hs;trivial
 have HT:=Lib.hid ht
 clear h hl ht
 go_enter Try.func47,Try.ntmps47
 go_wp2_with fail
 refine (HV.out _).mono ?_
 rintro en W ⟨rfl,rfl⟩
 clear HV
 go_upto_region 2 with fail
 generalize w.setCell ⟨gv,v,none⟩ (.int .i8 1)=W1 at *
 clear q3 qv zv
 rcases uB l0 with hlt|hlt
 ·have hb:decide (l<0)=true:=by simpa using hlt
  have q3:=H1.out.cellE (i:=3) rfl
  have qv:=H1.out.valAt (v:=v) (by simpa using l1)
  have zv:=H1.out.val.frozen v
  have H2:=Lib.hid (H1.out.setVal v (y := -1) (by simp))
  have HF2:Hid (Fr κ κ w (W1.setCell ⟨gv,v,none⟩ (.int .i8 (-1))) cQ):=HF1.out.trans ((frs κ W1 H1.out.val.k).mono fun s hs=>by subst hs;trivial)
  have HSG:Hid (l<0):=Lib.hid hlt
  simp only [zX] at q3
  clear H1 HF1
  go_upto_region 4 with fail
  generalize W1.setCell ⟨gv,v,none⟩ (.int .i8 (-1))=W2 at *
  clear q3 qv zv
  have q4:=H2.out.cellE (i:=4) rfl
  have qr:=H2.out.rsnAt (v:=v) (by simpa using l1)
  have zr:=H2.out.rsn.frozen v
  have H3:=Lib.hid (H2.out.setRsn v r)
  have HF3:Hid (Fr κ κ w (W2.setCell ⟨gr,v,none⟩ (.int .i64 r)) cQ):=HF2.out.trans ((frs κ W2 H2.out.rsn.k).mono fun s hs=>by subst hs;trivial)
  simp only [zX] at q4
  clear H2 HF2 hb hlt
  go_upto_region 5 with fail
  generalize W2.setCell ⟨gr,v,none⟩ (.int .i64 r)=W3 at *
  clear q4 qr zr
  have q5:=H3.out.cellE (i:=5) rfl
  have q7:=H3.out.cellE (i:=7) rfl
  have ql:=H3.out.lvlAt (v:=v) (by simpa using l1)
  have zl:=H3.out.lvl.frozen v
  have H4:Hid (EngM κ (W3.setCell ⟨gl,v,none⟩ (.int .i64 (e.st.length:Int))).drew g t rest x _ _):=Lib.hid ((H3.out.setLvl v (e.st.length:Int)).drewN 1)
  have HF4:Hid (Fr κ κ w (W3.setCell ⟨gl,v,none⟩ (.int .i64 (e.st.length:Int))).drew cQ):=HF3.out.trans (((frs κ W3 H3.out.lvl.k).mono fun s hs=>by subst hs;trivial).trans (Fr.drew _ _ _))
  simp only [zX] at q5 q7
  clear H3 HF3
  go_region
  generalize (W3.setCell ⟨gl,v,none⟩ (.int .i64 (e.st.length:Int))).drew=W4 at *
  clear q5 q7 ql zl
  have q6:=H4.out.cellE (i:=6) rfl
  have H63:Hid (e.tr.length+1≤maxLen):=by refine Lib.hid ?_;have:=HT.out;unfold LIM at this;unfold maxLen;omega
  have HBY:Hid ((e.tr.length+1) * 8≤140737488355328):=by refine Lib.hid ?_;have:=HT.out;unfold LIM at this;omega
  go_wp2_with (at_builtin;refine zW _ rfl _ _ 33 rfl 0 3 iI (.int .i64 0) 1 8 Try.underlying33 hiI hzI0 hzI1 hzI2 rfl (by decide) _ _ _ rfl (H4.out.tr.o.alloc _) ⟨W4.heap.size,0,none⟩ 1 1 [.int .i64 l] rfl rfl (wR W4 _ _) ?a2 H63.out HBY.out (zQ _) ?_)
  case a2=>first|rfl|(intro u hu;simp at hu;subst hu;rfl)
  intro v' w5 hown hgrow _ hat
  obtain ⟨κ',hb5,hE5,hf5⟩:=H4.out.pushTr hown hgrow (by simpa using hat)
  obtain ⟨A',c',hv', -, -⟩:=hE5.tr.shape
  simp only at hv'
  subst hv'
  have q6b:=hb5.cell 6
  have z6:=hb5.frozen 6
  simp only [EV.cells,qT,xL,zA,zC,zB] at q6b
  rw [show (e.tr++[l]).length=e.tr.length+1 by simp] at hE5 hf5
  have HE5:=Lib.hid hE5
  have HF5:Hid (Fr κ κ' w _ cQ):=HF4.out.trans (hf5.mono fun s hs=>by rcases hs with rfl|rfl<;>trivial)
  clear hown hgrow hat hb5 hE5 hf5 H4 HF4 q6
  go_wp2_with fail
  go_end0
  refine ⟨rfl,κ',⟨vc,vi, .slice A' (e.tr.length+1) c', .slice As e.st.length cs,gv,gr,gl,bm,us,mv⟩,?_,HF5.out,rfl,rfl⟩
  have:=HE5.out
  simp only [Eng.assign,hvr,if_pos HSG.out]
  simpa using this
 ·have hb:decide (l<0)=false:=by simp;omega
  have HSG:Hid (0≤l):=Lib.hid (by omega)
  have H2:=H1
  have HF2:=HF1
  clear H1 HF1
  go_upto_region 4 with fail
  have q4:=H2.out.cellE (i:=4) rfl
  have qr:=H2.out.rsnAt (v:=v) (by simpa using l1)
  have zr:=H2.out.rsn.frozen v
  have H3:=Lib.hid (H2.out.setRsn v r)
  have HF3:Hid (Fr κ κ w (W1.setCell ⟨gr,v,none⟩ (.int .i64 r)) cQ):=HF2.out.trans ((frs κ W1 H2.out.rsn.k).mono fun s hs=>by subst hs;trivial)
  simp only [zX] at q4
  clear H2 HF2 hb hlt
  go_upto_region 5 with fail
  generalize W1.setCell ⟨gr,v,none⟩ (.int .i64 r)=W3 at *
  clear q4 qr zr
  have q5:=H3.out.cellE (i:=5) rfl
  have q7:=H3.out.cellE (i:=7) rfl
  have ql:=H3.out.lvlAt (v:=v) (by simpa using l1)
  have zl:=H3.out.lvl.frozen v
  have H4:Hid (EngM κ (W3.setCell ⟨gl,v,none⟩ (.int .i64 (e.st.length:Int))).drew g t rest x _ _):=Lib.hid ((H3.out.setLvl v (e.st.length:Int)).drewN 1)
  have HF4:Hid (Fr κ κ w (W3.setCell ⟨gl,v,none⟩ (.int .i64 (e.st.length:Int))).drew cQ):=HF3.out.trans (((frs κ W3 H3.out.lvl.k).mono fun s hs=>by subst hs;trivial).trans (Fr.drew _ _ _))
  simp only [zX] at q5 q7
  clear H3 HF3
  go_region
  generalize (W3.setCell ⟨gl,v,none⟩ (.int .i64 (e.st.length:Int))).drew=W4 at *
  clear q5 q7 ql zl
  have q6:=H4.out.cellE (i:=6) rfl
  have H63:Hid (e.tr.length+1≤maxLen):=by refine Lib.hid ?_;have:=HT.out;unfold LIM at this;unfold maxLen;omega
  have HBY:Hid ((e.tr.length+1) * 8≤140737488355328):=by refine Lib.hid ?_;have:=HT.out;unfold LIM at this;omega
  go_wp2_with (at_builtin;refine zW _ rfl _ _ 33 rfl 0 3 iI (.int .i64 0) 1 8 Try.underlying33 hiI hzI0 hzI1 hzI2 rfl (by decide) _ _ _ rfl (H4.out.tr.o.alloc _) ⟨W4.heap.size,0,none⟩ 1 1 [.int .i64 l] rfl rfl (wR W4 _ _) ?a2 H63.out HBY.out (zQ _) ?_)
  case a2=>first|rfl|(intro u hu;simp at hu;subst hu;rfl)
  intro v' w5 hown hgrow _ hat
  obtain ⟨κ',hb5,hE5,hf5⟩:=H4.out.pushTr hown hgrow (by simpa using hat)
  obtain ⟨A',c',hv', -, -⟩:=hE5.tr.shape
  simp only at hv'
  subst hv'
  have q6b:=hb5.cell 6
  have z6:=hb5.frozen 6
  simp only [EV.cells,qT,xL,zA,zC,zB] at q6b
  rw [show (e.tr++[l]).length=e.tr.length+1 by simp] at hE5 hf5
  have HE5:=Lib.hid hE5
  have HF5:Hid (Fr κ κ' w _ cQ):=HF4.out.trans (hf5.mono fun s hs=>by rcases hs with rfl|rfl<;>trivial)
  clear hown hgrow hat hb5 hE5 hf5 H4 HF4 q6
  go_wp2_with fail
  go_end0
  refine ⟨rfl,κ',⟨vc,vi, .slice A' (e.tr.length+1) c', .slice As e.st.length cs,gv,gr,gl,bm,us,mv⟩,?_,HF5.out,rfl,rfl⟩
  have:=HE5.out
  simp only [Eng.assign,hvr,if_neg (show ¬l<0 from Int.not_lt.2 HSG.out)]
  simpa using this
end
end Go.Proofs.Yticieifacalocaa
