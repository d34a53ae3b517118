/- SolMem SolEng SolEng2 -/
import Derived.Test.YticieifacalocaaTSE12
import Derived.Test.YticieifacalocaaTSE22
import Derived.Deep.Cut
import Derived.Maps.OwnSet
namespace Go.Proofs.Yticieifacalocaa
open Go.RowKit
inductive Col where
 | slv|cls|inp|wat|val|rsn|lvl|tr|st|num|arcs|act|org|unt|acty
 | cl (c:Nat)
 | wt (l:Int)
 | ar (y:Nat)
 | och (c:Nat)
 | olt (c:Nat)
 | tmp (i:Nat)
 deriving DecidableEq
abbrev Kap:=Nat→Option Col
def kset (κ:Kap) (k:Nat) (s:Col):Kap:=fun j=>if j=k then some s else κ j
structure Fr (κ κ':Kap) (w w':World) (S:Col→Prop):Prop where
 os:w'.os=w.os
 tape:w'.tape=w.tape
 output:w'.output=w.output
 size:w.heap.size≤w'.heap.size
 ext:∀k,k<w.heap.size→κ' k=κ k
 blk:∀k,k<w.heap.size→(∀s,κ k=some s→¬S s)→w'.heap[k]? = w.heap[k]?
section
variable {κ κ' κ2:Kap} {w w' w2:World} {S T:Col→Prop} {s:Col}
theorem Fr.refl (κ:Kap) (w:World) (S:Col→Prop):Fr κ κ w w S:=⟨rfl,rfl,rfl,Nat.le_refl _,fun _ _=>rfl,fun _ _ _=>rfl⟩
theorem Fr.trans (h:Fr κ κ' w w' S) (k:Fr κ' κ2 w' w2 S):Fr κ κ2 w w2 S :=
 ⟨k.os.trans h.os,k.tape.trans h.tape,k.output.trans h.output,zZ h.size k.size,fun j hj=>(k.ext j (qG hj h.size)).trans (h.ext j hj),
  fun j hj hs=>(k.blk j (qG hj h.size) (fun s e=>hs s (by rw [←h.ext j hj];exact e))).trans (h.blk j hj hs)⟩
theorem Fr.mono (h:Fr κ κ' w w' S) (hS:∀s,S s→T s):Fr κ κ' w w' T:=⟨h.os,h.tape,h.output,h.size,h.ext,fun j hj hs=>h.blk j hj fun s e hc=>hs s e (hS s hc)⟩
theorem Fr.alloc (κ:Kap) (w:World) (o:Obj) (S:Col→Prop):Fr κ κ w (w.alloc o) S :=
 ⟨rfl,rfl,rfl,by simp,fun _ _=>rfl,fun k hk _=>Below.heap_alloc w o k hk⟩
theorem Fr.drew (κ:Kap) (w:World) (S:Col→Prop):Fr κ κ w w.drew S:=⟨rfl,rfl,rfl,Nat.le_refl _,fun _ _=>rfl,fun _ _ _=>rfl⟩
theorem Fr.drewN (κ:Kap) (w:World) (n:Nat) (S:Col→Prop):Fr κ κ w (w.drewN n) S:=⟨rfl,rfl,rfl,Nat.le_refl _,fun _ _=>rfl,fun _ _ _=>rfl⟩
theorem Fr.grown {g:Nat} (κ:Kap) (hg:w.grownBy w' (some g)) (hk:κ g=some s) (hs:S s):Fr κ κ w w' S :=
 ⟨hg.os,hg.tape,hg.output,hg.size,fun _ _=>rfl,fun k hk2 hn=>hg.block k hk2 fun e=>by injection e with e;subst e;exact hn s hk hs⟩
theorem Fr.set (κ:Kap) (w:World) {g i:Nat} {u:Value} (hk:κ g=some s) (hs:S s):Fr κ κ w (w.setCell ⟨g,i,none⟩ u) S:=Fr.grown κ (wJ w g i u) hk hs
theorem Fr.kept (κ:Kap) (hb:Below w.heap.size w w') (S:Col→Prop):Fr κ κ w w' S:=⟨hb.os,hb.tape,hb.output,hb.size,fun _ _=>rfl,fun k hk _=>hb.block k hk⟩
theorem Fr.paint (h:Fr κ κ' w w' S) {k:Nat} (hk:w.heap.size≤k) (s:Col):Fr κ (kset κ' k s) w w' S :=
 ⟨h.os,h.tape,h.output,h.size,fun j hj=>by unfold kset;rw [if_neg (by omega)];exact h.ext j hj,h.blk⟩
theorem Fr.below (h:Fr κ κ' w w' S) {B:Nat} (hB:B≤w.heap.size) (hn:∀k,k<B→κ k=none):Below B w w' :=
 ⟨h.os,h.tape,h.output,h.size,fun k hk=>h.blk k (qG hk hB) fun s e=>by rw [hn k hk] at e;cases e⟩
theorem Fr.loc (h:Fr κ κ' w w' S) {gl:Option Nat} (hg:w'.grownBy w2 gl) (hn:∀k,gl=some k→w.heap.size≤k):Fr κ κ' w w2 S :=
 ⟨hg.os.trans h.os,hg.tape.trans h.tape,hg.output.trans h.output,zZ h.size hg.size,h.ext,fun k hk hs=>(hg.block k (qG hk h.size) fun e=>by have:=hn k e.symm;omega).trans (h.blk k hk hs)⟩
theorem Fr.recol (h:Fr κ κ' w w' S) (hk:∀k,k<w.heap.size→κ2 k=κ' k):Fr κ κ2 w w' S:=⟨h.os,h.tape,h.output,h.size,fun k hl=>(hk k hl).trans (h.ext k hl),h.blk⟩
structure HB (κ:Kap) (w:World) (s:Col) (g:Nat) (t:TypeId) (cs:Array Value):Prop where
 b:Blk w g t cs
 k:κ g=some s
theorem HB.fr {g:Nat} {t:TypeId} {cs:Array Value} (h:HB κ w s g t cs) (f:Fr κ κ' w w' S) (hs:¬S s):HB κ' w' s g t cs :=
 ⟨(f.blk g h.b.lt fun s' e=>by rw [h.k] at e;injection e with e;subst e;exact hs).trans h.b,(f.ext g h.b.lt).trans h.k⟩
theorem HB.cell {g:Nat} {t:TypeId} {cs:Array Value} (h:HB κ w s g t cs) (i:Nat):w.cell? ⟨g,i,none⟩=cs[i]? := h.b.cell i
theorem HB.frozen {g:Nat} {t:TypeId} {cs:Array Value} (h:HB κ w s g t cs) (i:Nat):w.frozen? ⟨g,i,none⟩=false:=h.b.frozen i
theorem HB.set_ {g:Nat} {t:TypeId} {cs:Array Value} (h:HB κ w s g t cs) (i:Nat) (u:Value):HB κ (w.setCell ⟨g,i,none⟩ u) s g t (cs.setIfInBounds i u):=⟨h.b.set_ i u,h.k⟩
structure Hold (κ:Kap) (w:World) (s:Col) (e:TypeId) (sz:Nat) (v:Value) (n:Nat) (xs:List Value):Prop where
 o:w.ownsRow 0 e sz v n xs
 k:∀k,v.ownBlock=some k→κ k=some s
section
variable {e:TypeId} {sz n:Nat} {v:Value} {xs:List Value}
theorem Hold.nil (κ:Kap) (w:World) (s:Col) (e:TypeId) (sz:Nat):Hold κ w s e sz (.slice none 0 0) 0 []:=⟨zY _ _ _ _,by simp [Value.ownBlock]⟩
theorem Hold.fr (h:Hold κ w s e sz v n xs) (f:Fr κ κ' w w' S) (hs:¬S s):Hold κ' w' s e sz v n xs:=by
 refine ⟨⟨h.o.1,?_⟩,fun k hk => ?_⟩
 ·rcases h.o.2 with hn|⟨g,cap,cur,rfl,hg,hgg,rest⟩
  ·exact .inl hn
  ·exact .inr ⟨g,cap,cur,rfl,hg,(f.blk g (yV.1 hgg).1 fun s' e'=>by rw [h.k g rfl] at e';injection e' with e';subst e';exact hs).trans hgg,rest⟩
 ·rw [f.ext k (h.o.lt k hk).2];exact h.k k hk
theorem Hold.open_ (h:Hold κ w s e sz v n xs) (hn:0<n):∃g cap,v = .slice (some ⟨g,0,none⟩) n cap∧κ g=some s∧g<w.heap.size∧n≤cap∧cap≤maxLen∧(∀j u,xs[j]? = some u→w.cell? ⟨g,j,none⟩=some u)∧∀j,w.frozen? ⟨g,j,none⟩=false:=by
 rcases h.o.2 with ⟨_,h0⟩|⟨g,cap,cur,rfl,hg,hgg,hnc,hm,hs,ht⟩
 ·omega
 ·obtain ⟨_,h2,h3,h4,h5⟩:=eJ h.o
  exact ⟨g,cap,rfl,h.k g rfl,h2,h3,h4,fun j u hu=>by have:=h5 j u hu;rwa [yC] at this,fun j=>by simp [World.frozen?,hgg]⟩
theorem Hold.shape (h:Hold κ w s e sz v n xs):∃A c,v = .slice A n c∧n≤c∧c≤maxLen:=by
 obtain ⟨A,c,h1,h2,h3, -⟩:=wK h.o
 exact ⟨A,c,h1,h2,h3⟩
theorem Hold.set_ {g cap:Nat} (h:Hold κ w s e sz (.slice (some ⟨g,0,none⟩) n cap) n xs) (i:Nat) (u:Value):Hold κ (w.setCell ⟨g,i,none⟩ u) s e sz (.slice (some ⟨g,0,none⟩) n cap) n (xs.set i u):=by
 refine ⟨⟨by rw [qE];exact h.o.1,?_⟩,h.k⟩
 rcases h.o.2 with ⟨h0,_⟩|⟨g',cap',cur,hv,hg,hh,hn,hm,hs,ht⟩
 ·cases h0
 ·cases hv
  refine .inr ⟨g,cap,cur.setIfInBounds i u,rfl,hg,?_,hn,hm,by simpa using hs,?_⟩
  ·have:Blk w g e cur:=hh
   exact this.set_ i u
  ·rw [uG,List.take_set,ht]
theorem Hold.app {v':Value} {m:Nat} {ys:List Value} (h:Hold κ w s e sz v n xs) (ho:w'.ownsRow 0 e sz v' m ys) (hg:w.grownBy w' v.ownBlock) (hat:v'.ownBlock=v.ownBlock∨v'.ownBlock=some w.heap.size) (hs:S s) :
  ∃κ',Hold κ' w' s e sz v' m ys∧Fr κ κ' w w' S:=by
 have f0:Fr κ κ w w' S:=⟨hg.os,hg.tape,hg.output,hg.size,fun _ _=>rfl,fun k hk hn=>hg.block k hk fun e'=>hn s (h.k k e'.symm) hs⟩
 rcases hat with e1|e1
 ·exact ⟨κ,⟨ho,fun k hk=>h.k k (by rw [←e1];exact hk)⟩,f0⟩
 ·refine ⟨kset κ w.heap.size s,⟨ho,fun k hk => ?_⟩,f0.paint (Nat.le_refl _) s⟩
  rw [e1] at hk
  injection hk with hk
  subst hk
  unfold kset;rw [if_pos rfl]
theorem Hold.cut (h:Hold κ w s e sz v n xs) {m:Nat} (hm:m≤n) {A:Option Addr} {c:Nat} (hv:v = .slice A n c):Hold κ w s e sz (.slice A m c) m (xs.take (m * sz)):=by
 subst hv
 rcases h.o.2 with ⟨h0,h1⟩|⟨g,cap,cur,hv,hg,hh,hn,hmx,hs,ht⟩
 ·cases h0
  have:m=0:=by omega
  subst this
  rw [uZ,uK]
  exact Hold.nil κ w s e sz
 ·cases hv
  refine ⟨⟨by rw [qF,h.o.1];exact yF (kX _ hm), .inr ⟨g,c,cur,rfl,hg,hh,by omega,hmx,hs,?_⟩⟩,fun k hk=>h.k k hk⟩
  rw [←ht,xE,yF (kX _ hm)]
end
end
theorem HB.new (κ:Kap) (w:World) (s:Col) (cs:Array Value) (t:TypeId):HB (kset κ w.heap.size s) (w.alloc (.cells cs t)) s w.heap.size t cs :=
 ⟨Blk.new w _ _,by unfold kset;rw [if_pos rfl]⟩
theorem Fr.row {s:Col} {S:Col→Prop} (κ:Kap) (w:World) {g:Nat} {cs:Array Value} (hk:κ g=some s) (hs:S s):Fr κ κ w (w.setRow g cs) S :=
 Fr.grown κ ⟨rfl,rfl,rfl,by simp [World.setRow],fun k _ hk=>vR w g k _ (fun e=>hk (by rw [e]))⟩ hk hs
theorem HB.row {κ:Kap} {w:World} {s:Col} {g:Nat} {t:TypeId} {cs:Array Value} (h:HB κ w s g t cs) (cs':Array Value):HB κ (w.setRow g cs') s g t cs':=⟨vM w g cs cs' t _ h.b,h.k⟩
theorem Fr.make (κ:Kap) (w:World) (o:Obj) (s:Col) (S:Col→Prop):Fr κ (kset κ w.heap.size s) w (w.alloc o) S:=(Fr.alloc κ w o S).paint (Nat.le_refl _) s
def ci (xs:List Int):List Value:=xs.map (Value.int .i64)
def cn (xs:List Nat):List Value:=xs.map fun (x:Nat)=>Value.int .i64 (x:Int)
theorem gJ {xs:List Int} {k:Nat} {x:Int} (h:xs[k]? = some x):(ci xs)[k]? = some (.int .i64 x):=by unfold ci;rw [List.getElem?_map,h];rfl
theorem cn_at {xs:List Nat} {k:Nat} {x:Nat} (h:xs[k]? = some x):(cn xs)[k]? = some (.int .i64 (x:Int)):=by unfold cn;rw [List.getElem?_map,h];rfl
theorem fZ (xs:List Int):(ci xs).length=xs.length:=by simp [ci]
theorem dF (xs:List Nat):(cn xs).length=xs.length:=by simp [cn]
def heldR (v:Value):Option (DataW Value × List MemPlace):=some (.held v,[])
def nilS:Value := .slice none 0 0
def keyL (k:Int):Lit := .int .i64 k
structure MapC (κ:Kap) (w:World) (b B:Nat) (m:Int→Value):Prop where
 d:∃(D:DataW Value) (ks:List Int),w.ownsMap Try.prog 3 heldR b (Maps.size D) D∧Maps.Tidy D∧ks.Nodup∧Maps.size D=ks.length∧(∀k,Maps.has D (keyL k)=true↔k∈ks)∧(∀k∈ks,litB B k=true)∧∀k,D.atKey (keyL k) (.held nilS) = .held (m k)
 k:κ b=some .wat
section
variable {κ κ':Kap} {w w':World} {b B:Nat} {m:Int→Value} {S:Col→Prop}
theorem MapC.lt (h:MapC κ w b B m):b<w.heap.size:=by obtain ⟨⟨D,ks,h1,_⟩,_⟩:=h;exact h1.lt
theorem MapC.fr (h:MapC κ w b B m) (f:Fr κ κ' w w' S) (hs:¬S .wat):MapC κ' w' b B m:=by
 have hlt:=h.lt
 have hk:=h.k
 obtain ⟨⟨D,ks,⟨es,clock,hb,F,hs1,hD⟩,h2⟩,_⟩:=h
 exact ⟨⟨D,ks,⟨es,clock,(f.blk b hlt fun s' e=>by rw [hk] at e;injection e with e;subst e;exact hs).trans hb,F,hs1,hD⟩,h2⟩,(f.ext b hlt).trans hk⟩
theorem key_int:Maps.Keyed Try.prog 3:=Maps.int_keyed Try.underlying3
theorem gM {B:Nat} (hB:B≤1048576) {k:Int} (h:litB B k=true) : -1048576≤k∧k≤1048576:=by
 have:=(kU h:k≠0∧vr k<B)
 unfold vr at this
 omega
theorem keyOf_i64 {k:Int} (h1 : -9223372036854775808≤k) (h2:k≤9223372036854775807):keyOf Try.prog 3 (.int .i64 k)=some (keyL k) :=
 Maps.keyOf_int_mk Try.underlying3 (WalkArith.wf_i64 ⟨h1,h2⟩)
theorem zero_ints (w:World):(zeroValue 33).run Try.prog w = .ok nilS w:=by kernel_rfl
set_option maxRecDepth 100000 in
theorem MapC.look (h:MapC κ w b B m) {k:Int} (h1 : -9223372036854775808≤k) (h2:k≤9223372036854775807):(Instr.lookup 80 (.map (some b)) (.int .i64 k) false).run Try.prog w = .ok (m k) w:=by
 obtain ⟨⟨D,ks,g1,g2,g3,g4,g5,g6,g7⟩,_⟩:=h
 obtain ⟨v,ps,hr,hv⟩:=g1.lookup key_int Try.underlying80 (zero_ints w) (zd := .held nilS) (zp:=[]) rfl (keyOf_i64 h1 h2)
 rw [g7] at hv
 unfold heldR at hv
 injection hv with hv
 injection hv with hv _
 injection hv with hv
 rw [hr,hv]
def updV (m:Int→Value) (k:Int) (v:Value):Int→Value:=fun j=>if j=k then v else m j
theorem own_size {D:DataW Value} {n:Nat} (h:w.ownsMap Try.prog 3 heldR b n D):w.ownsMap Try.prog 3 heldR b (Maps.size D) D:=by
 obtain ⟨es,clock,hb,F,hs,hD⟩:=h
 refine ⟨es,clock,hb,F,?_,hD⟩
 rw [hD]
 show es.size≤((es.toList.map _).foldr DataW.insert []).length
 rw [length_sorted];simp
set_option maxRecDepth 100000 in
theorem MapC.store (h:MapC κ w b B m) {k:Int} {v:Value} (hk:litB B k=true) (hB:B≤1048576) :
  ∃w',(Instr.mapUpdate 80 (.map (some b)) (.int .i64 k) v).run Try.prog w = .ok () w'∧MapC κ w' b B (updV m k v)∧w.grownBy w' (some b):=by
 have hk1:=gM hB hk
 have hkk:=h.k
 obtain ⟨⟨D,ks,g1,g2,g3,g4,g5,g6,g7⟩,_⟩:=h
 have hsize:Maps.size D≤2097153:=by
  rw [g4]
  have h1:(ks.map fun x=>x+1048576).Nodup:=by
   unfold List.Nodup at g3 ⊢
   rw [yU]
   exact g3.imp fun h e=>h (by omega)
  have h2:=bA (N:=2097153) h1 (fun x hx=>by
   obtain ⟨y,hy,rfl⟩:=List.mem_map.1 hx
   have:=gM hB (g6 y hy)
   omega)
  simpa using h2
 have hkey:WideAt.IsKeyLit (keyL k):=trivial
 obtain ⟨w',hr,hown,hg⟩:=g1.update key_int Try.underlying80 (by unfold maxLen;omega) (keyOf_i64 (k:=k) (by omega) (by omega)) (d := .held v) (ps:=[]) rfl
 refine ⟨w',hr,⟨⟨D.put (keyL k) (.held v),(if k∈ks then ks else ks++[k]),own_size hown,g2.put hkey _,?_,?_,fun j => ?_,fun j hj => ?_,fun j => ?_⟩,hkk⟩,hg⟩
 ·split
  ·exact g3
  ·rename_i hn
   rw [qK]
   refine ⟨g3,by simp,fun a ha c hc e => ?_⟩
   rw [zH] at hc
   subst hc e
   exact hn ha
 ·rw [Maps.size_put g2]
  by_cases hm:k∈ks
  ·rw [if_pos ((g5 k).2 hm),if_pos hm];exact g4
  ·rw [if_neg (fun e=>hm ((g5 k).1 e)),if_neg hm,g4];simp
 ·by_cases e:j=k
  ·subst e
   rw [Maps.has_put_same g2.isMap hkey]
   simp only [true_iff]
   split
   ·assumption
   ·simp
  ·rw [Maps.has_put_other (fun h=>e (by unfold keyL at h;injection h)),g5]
   split
   ·exact jZ
   ·simp [e]
 ·split at hj
  ·exact g6 j hj
  ·rcases zI.1 hj with hj|hj
   ·exact g6 j hj
   ·rw [zH] at hj;subst hj;exact hk
 ·unfold updV
  by_cases e:j=k
  ·subst e;rw [if_pos rfl,Maps.atKey_put_same g2.isMap hkey]
  ·rw [if_neg e,Maps.atKey_put_other (fun h=>e (by unfold keyL at h;injection h)),g7]
theorem MapC.made (κ:Kap) (w:World) (B:Nat):MapC (kset κ w.heap.size .wat) (w.alloc (.map #[] 0)) w.heap.size B (fun _=>nilS) :=
 ⟨⟨.map [],[],World.ownsMap_made _ _ _ _,Maps.tidy_empty,List.nodup_nil,rfl,fun k=>by simp [Maps.has],by simp,fun k=>rfl⟩,by unfold kset;rw [if_pos rfl]⟩
end
structure EV where
 vc:Value
 vi:Value
 vt:Value
 vs:Value
 gv:Nat
 gr:Nat
 gl:Nat
 bm:Nat
 us:List Value
 mv:Int→Value
def EV.cells (V:EV) (B hd:Nat):List Value :=
 [V.vc,V.vi, .map (some V.bm), .slice (some ⟨V.gv,0,none⟩) B B, .slice (some ⟨V.gr,0,none⟩) B B, .slice (some ⟨V.gl,0,none⟩) B B,V.vt,V.vs, .int .i64 hd]
def c8 (xs:List Int):List Value:=xs.map (Value.int .i8)
theorem c8_at {xs:List Int} {k:Nat} {x:Int} (h:xs[k]? = some x):(c8 xs)[k]? = some (.int .i8 x):=by unfold c8;rw [List.getElem?_map,h];rfl
structure EngM (κ:Kap) (w:World) (g:Nat) (t:TypeId) (rest:List Value) (x:Int) (e:Eng) (V:EV):Prop where
 blk:HB κ w .slv g t (V.cells e.val.length e.hd++rest).toArray
 cls:Hold κ w .cls 33 1 V.vc e.cls.length V.us
 cl:∀c u,V.us[c]? = some u→Hold κ w (.cl c) 3 1 u (e.cl c).length (ci (e.cl c))
 inp:Hold κ w .inp 3 1 V.vi e.inp.length (cn e.inp)
 val:HB κ w .val V.gv 48 (c8 e.val).toArray
 rsn:HB κ w .rsn V.gr 3 (ci e.rsn).toArray
 lvl:HB κ w .lvl V.gl 3 (ci e.lvl).toArray
 rl:e.rsn.length=e.val.length
 ll:e.lvl.length=e.val.length
 tr:Hold κ w .tr 3 1 V.vt e.tr.length (ci e.tr)
 st:Hold κ w .st 3 1 V.vs e.st.length (cn e.st)
 wat:MapC κ w V.bm e.val.length V.mv
 wt:∀l,l≠x→l≠0→Hold κ w (.wt l) 3 1 (V.mv l) (e.wat l).length (cn (e.wat l))
 B:e.val.length≤1024
 v3:∀i,e.val.getD i 0=0∨e.val.getD i 0=1∨e.val.getD i 0 = -1
def wV:Col→Prop
 | .slv | .cls | .inp | .wat | .val | .rsn | .lvl | .tr | .st | .cl _ | .wt _=>True
 | _=>False
section
variable {κ κ':Kap} {w w':World} {g:Nat} {t:TypeId} {rest:List Value} {x:Int} {e:Eng} {V:EV} {S:Col→Prop}
theorem EngM.fr (h:EngM κ w g t rest x e V) (f:Fr κ κ' w w' S) (hs:∀s,wV s→¬S s):EngM κ' w' g t rest x e V :=
 ⟨h.blk.fr f (hs _ trivial),h.cls.fr f (hs _ trivial),fun c u hu=>(h.cl c u hu).fr f (hs _ trivial),h.inp.fr f (hs _ trivial),h.val.fr f (hs _ trivial),h.rsn.fr f (hs _ trivial),h.lvl.fr f (hs _ trivial),h.rl,h.ll,
  h.tr.fr f (hs _ trivial),h.st.fr f (hs _ trivial),h.wat.fr f (hs _ trivial),fun l hl h0=>(h.wt l hl h0).fr f (hs _ trivial),h.B,h.v3⟩
theorem EngM.keep (h:EngM κ w g t rest x e V) (hb:Below w.heap.size w w'):EngM κ w' g t rest x e V:=h.fr (Fr.kept κ hb (fun _=>False)) fun _ _=>id
theorem EngM.alloc (h:EngM κ w g t rest x e V) (o:Obj):EngM κ (w.alloc o) g t rest x e V:=h.fr (Fr.alloc κ w o (fun _=>False)) fun _ _=>id
theorem EngM.drewN (h:EngM κ w g t rest x e V) (n:Nat):EngM κ (w.drewN n) g t rest x e V:=h.fr (Fr.drewN κ w n (fun _=>False)) fun _ _=>id
theorem EngM.cellE (h:EngM κ w g t rest x e V) {i:Nat} {u:Value} (hu:(V.cells e.val.length e.hd)[i]? = some u):w.cell? ⟨g,i,none⟩=some u:=by
 rw [h.blk.cell,zA,zP ((zG.1 hu).1)];exact hu
theorem EngM.frz (h:EngM κ w g t rest x e V) (i:Nat):w.frozen? ⟨g,i,none⟩=false:=h.blk.frozen i
theorem getD_at {xs:List Int} {k:Nat} (h:k<xs.length):xs[k]? = some (xs.getD k 0):=by rw [List.getD_eq_getElem?_getD,List.getElem?_eq_getElem h];rfl
theorem EngM.valAt (h:EngM κ w g t rest x e V) {v:Nat} (hv:v<e.val.length):w.cell? ⟨V.gv,v,none⟩=some (.int .i8 (e.val.getD v 0)):=by
 rw [h.val.cell,zA];exact c8_at (getD_at hv)
theorem EngM.rsnAt (h:EngM κ w g t rest x e V) {v:Nat} (hv:v<e.val.length):w.cell? ⟨V.gr,v,none⟩=some (.int .i64 (e.rsn.getD v 0)):=by
 rw [h.rsn.cell,zA];exact gJ (getD_at (by rw [h.rl];exact hv))
theorem EngM.lvlAt (h:EngM κ w g t rest x e V) {v:Nat} (hv:v<e.val.length):w.cell? ⟨V.gl,v,none⟩=some (.int .i64 (e.lvl.getD v 0)):=by
 rw [h.lvl.cell,zA];exact gJ (getD_at (by rw [h.ll];exact hv))
end
theorem wY {B:Nat} {l:Int} (h:litB B l=true):l≠0∧vr l<B:=kU h
set_option maxRecDepth 100000 in
theorem gX (l:Int) (h0:l≠0) (h1 : -1048576≤l) (h2:l≤1048576) (w:World) :
  Calls Try.prog 64 #[.int .i64 l] w fun e w'=>e = .returned (.int .i64 (vr l:Nat))∧w=w':=by
 rcases uI h0 with hl|hl
 ·have hb:decide (l<0)=true:=by simpa using hl
  go_enter Try.func64,Try.ntmps64
  go_wp2
  go_ret
  exact ⟨aL (by unfold vr;omega),rfl⟩
 ·have hb:decide (l<0)=false:=by simp;omega
  go_enter Try.func64,Try.ntmps64
  go_wp2
  go_ret
  exact ⟨aL (by unfold vr;omega),rfl⟩
section
variable {κ:Kap} {w:World} {g:Nat} {t:TypeId} {rest:List Value} {x:Int} {e:Eng} {V:EV}
set_option maxRecDepth 100000 in
set_option maxHeartbeats 1000000 in
theorem bK (h:EngM κ w g t rest x e V) {l:Int} (hl:litB e.val.length l=true) :
  Calls Try.prog 46 #[.pointer (some ⟨g,0,none⟩), .int .i64 l] w fun en w'=>en = .returned (.int .i8 (tv e.val l))∧∃n,w'=w.drewN n:=by
 obtain ⟨l0,l1⟩:=wY hl
 have hi:=gM (by have:=h.B;omega) hl
 have q3:=h.cellE (i:=3) rfl
 have qv:=h.valAt l1
 have HV:Hid (∀m,Calls Try.prog 64 #[.int .i64 l] (w.drewN m) fun e w'=>e = .returned (.int .i64 (vr l:Nat))∧w'=w.drewN m):=fun m=>(gX l l0 hi.1 hi.2 (w.drewN m)).mono fun e w' hh=>⟨hh.1,hh.2.symm⟩
 have y3:((vr l:Nat):Int)<(e.val.length:Int):=by omega
 have y4:IntKind.i8.wrap (-(e.val.getD (vr l) 0)) = -(e.val.getD (vr l) 0):=by rcases h.v3 (vr l) with h0|h0|h0<;>rw [h0]<;>rfl
 generalize hvr:vr l=v at *
 generalize hx:e.val.getD v 0=y at *
 have HTV:Hid (tv e.val l=if l<0 then -y else y):=by refine Lib.hid ?_;unfold tv;rw [hvr,hx]
 clear h hl hi hvr hx
 rcases uI l0 with hlt|hlt
 ·have hb:decide (l<0)=true:=by simpa using hlt
  go_enter Try.func46,Try.ntmps46
  go_wp2
  go_quiet ((go_at_call 64;exact kC (HV.out _)))
  go_wp2
  go_ret
  exact ⟨by rw [HTV.out,if_pos hlt];rfl,_,rfl⟩
 ·have hb:decide (l<0)=false:=by simp;omega
  go_enter Try.func46,Try.ntmps46
  go_wp2
  go_quiet ((go_at_call 64;exact kC (HV.out _)))
  go_wp2
  go_ret
  exact ⟨by rw [HTV.out,if_neg (by omega)];rfl,_,rfl⟩
end
section
variable {κ κ':Kap} {w w':World} {g:Nat} {t:TypeId} {rest:List Value} {x:Int} {e:Eng} {V:EV}
theorem gF (xs:List Value) (i:Nat) (u:Value):xs.toArray.setIfInBounds i u=(xs.set i u).toArray:=by simp
theorem c8_set (xs:List Int) (i:Nat) (y:Int):c8 (xs.set i y)=(c8 xs).set i (.int .i8 y):=by simp [c8,List.map_set]
theorem cJ (xs:List Int) (i:Nat) (y:Int):ci (xs.set i y)=(ci xs).set i (.int .i64 y):=by simp [ci,List.map_set]
theorem aM (xs:List Int) (y:Int):ci (xs++[y])=ci xs++[.int .i64 y]:=by simp [ci]
theorem pN (xs:List Nat) (y:Nat):cn (xs++[y])=cn xs++[.int .i64 (y:Int)]:=by simp [cn]
theorem frs {s:Col} (κ:Kap) (w:World) {k i:Nat} {u:Value} (hk:κ k=some s):Fr κ κ w (w.setCell ⟨k,i,none⟩ u) (fun c=>c=s):=Fr.set κ w hk rfl
theorem EngM.setVal (h:EngM κ w g t rest x e V) (v:Nat) {y:Int} (hy:y=0∨y=1∨y = -1):EngM κ (w.setCell ⟨V.gv,v,none⟩ (.int .i8 y)) g t rest x { e with val:=e.val.set v y } V:=by
 have f:=frs κ w (i:=v) (u := .int .i8 y) h.val.k
 refine ⟨?_,h.cls.fr f (by simp),fun c u hu=>(h.cl c u hu).fr f (by simp),h.inp.fr f (by simp),?_,h.rsn.fr f (by simp),h.lvl.fr f (by simp),by simp [h.rl],by simp [h.ll],h.tr.fr f (by simp),h.st.fr f (by simp),?_,fun l hl h0=>(h.wt l hl h0).fr f (by simp),by simp [h.B],fun i => ?_⟩
 ·have:=h.blk.fr f (by simp)
  simpa using this
 ·have:=h.val.set_ v (.int .i8 y)
  rw [gF] at this
  show HB _ _ _ _ _ (c8 (e.val.set v y)).toArray
  rw [c8_set];exact this
 ·have:=h.wat.fr f (by simp)
  simpa using this
 ·show (e.val.set v y).getD i 0=0∨_
  by_cases hlt:v<e.val.length
  ·rw [wR _ _ _ _ _ hlt]
   split
   ·exact hy
   ·exact h.v3 i
  ·rw [List.set_eq_of_length_le (by omega)];exact h.v3 i
theorem EngM.setRsn (h:EngM κ w g t rest x e V) (v:Nat) (y:Int):EngM κ (w.setCell ⟨V.gr,v,none⟩ (.int .i64 y)) g t rest x { e with rsn:=e.rsn.set v y } V:=by
 have f:=frs κ w (i:=v) (u := .int .i64 y) h.rsn.k
 refine ⟨h.blk.fr f (by simp),h.cls.fr f (by simp),fun c u hu=>(h.cl c u hu).fr f (by simp),h.inp.fr f (by simp),h.val.fr f (by simp),?_,h.lvl.fr f (by simp),by simp [h.rl],h.ll,h.tr.fr f (by simp),h.st.fr f (by simp),h.wat.fr f (by simp),fun l hl h0=>(h.wt l hl h0).fr f (by simp),h.B,h.v3⟩
 have:=h.rsn.set_ v (.int .i64 y)
 rw [gF] at this
 show HB _ _ _ _ _ (ci (e.rsn.set v y)).toArray
 rw [cJ];exact this
theorem EngM.setLvl (h:EngM κ w g t rest x e V) (v:Nat) (y:Int):EngM κ (w.setCell ⟨V.gl,v,none⟩ (.int .i64 y)) g t rest x { e with lvl:=e.lvl.set v y } V:=by
 have f:=frs κ w (i:=v) (u := .int .i64 y) h.lvl.k
 refine ⟨h.blk.fr f (by simp),h.cls.fr f (by simp),fun c u hu=>(h.cl c u hu).fr f (by simp),h.inp.fr f (by simp),h.val.fr f (by simp),h.rsn.fr f (by simp),?_,h.rl,by simp [h.ll],h.tr.fr f (by simp),h.st.fr f (by simp),h.wat.fr f (by simp),fun l hl h0=>(h.wt l hl h0).fr f (by simp),h.B,h.v3⟩
 have:=h.lvl.set_ v (.int .i64 y)
 rw [gF] at this
 show HB _ _ _ _ _ (ci (e.lvl.set v y)).toArray
 rw [cJ];exact this
theorem cells_set (V:EV) (B hd:Nat) (rest:List Value):((V.cells B hd++rest).set 6=fun v=>({ V with vt:=v }:EV).cells B hd++rest)∧((V.cells B hd++rest).set 7=fun v=>({ V with vs:=v }:EV).cells B hd++rest) ∧
  ((V.cells B hd++rest).set 0=fun v=>({ V with vc:=v }:EV).cells B hd++rest)∧((V.cells B hd++rest).set 1=fun v=>({ V with vi:=v }:EV).cells B hd++rest):=⟨rfl,rfl,rfl,rfl⟩
theorem EngM.pushTr (h:EngM κ w g t rest x e V) {l:Int} {v':Value} {o:Obj} (ho:w'.ownsRow 0 3 1 v' (e.tr.length+1) (ci e.tr++[.int .i64 l])) (hg:(w.alloc o).grownBy w' V.vt.ownBlock) (hat:v'.ownBlock=V.vt.ownBlock∨v'.ownBlock=some (w.alloc o).heap.size) :
  ∃κ',HB κ' w' .slv g t (V.cells e.val.length e.hd++rest).toArray∧EngM κ' (w'.setCell ⟨g,6,none⟩ v') g t rest x { e with tr:=e.tr++[l] } { V with vt:=v' }∧Fr κ κ' w (w'.setCell ⟨g,6,none⟩ v') (fun c=>c = .tr∨c = .slv):=by
 have h1:=h.alloc o
 obtain ⟨κ',k1,k2⟩:=h1.tr.app (S:=fun c=>c = .tr) ho hg hat rfl
 have hb:=h1.blk.fr k2 (by simp)
 have f2:Fr κ' κ' w' (w'.setCell ⟨g,6,none⟩ v') (fun c=>c = .slv):=Fr.set κ' w' hb.k rfl
 have f:Fr κ κ' (w.alloc o) (w'.setCell ⟨g,6,none⟩ v') (fun c=>c = .tr∨c = .slv):=(k2.mono fun s hs => .inl hs).trans (f2.mono fun s hs => .inr hs)
 refine ⟨κ',hb,⟨?_,h1.cls.fr f (by simp),fun c u hu=>(h1.cl c u hu).fr f (by simp),h1.inp.fr f (by simp),h1.val.fr f (by simp),h1.rsn.fr f (by simp),h1.lvl.fr f (by simp),h1.rl,h1.ll,?_,h1.st.fr f (by simp),h1.wat.fr f (by simp),fun l hl h0=>(h1.wt l hl h0).fr f (by simp),h1.B,h1.v3⟩,(Fr.alloc κ w o _).trans f⟩
 ·have:=hb.set_ 6 v'
  rw [gF,(cells_set V _ _ rest).1] at this
  exact this
 ·have:=k1.fr f2 (by simp)
  show Hold _ _ _ _ _ _ (e.tr++[l]).length (ci (e.tr++[l]))
  rw [aM,zK]
  exact this
end
section
variable {κ:Kap} {w:World} {g:Nat} {t:TypeId} {rest:List Value} {x:Int} {e:Eng} {V:EV}
def iF (κ:Kap) (w:World) (g:Nat) (t:TypeId) (rest:List Value) (x:Int) (S:Col→Prop) (r:Value) (e:Eng) (en:Ending) (w':World):Prop :=
 en = .returned r∧∃κ' V',EngM κ' w' g t rest x e V'∧Fr κ κ' w w' S
def fQ (κ:Kap) (w:World) (g:Nat) (t:TypeId) (rest:List Value) (x:Int) (S:Col→Prop) (r:Value) (V:EV) (e:Eng) (en:Ending) (w':World):Prop :=
 en = .returned r∧∃κ' V',EngM κ' w' g t rest x e V'∧Fr κ κ' w w' S∧V'.mv=V.mv∧V'.us=V.us
def eF:Col→Prop
 | .slv | .val | .rsn | .lvl | .tr=>True
 | _=>False
theorem dN {s:Col} (h:eF s):wV s:=by cases s<;>first|trivial|exact h
set_option maxRecDepth 100000 in
set_option maxHeartbeats 2000000 in
theorem dE (h:EngM κ w g t rest x e V) {l r:Int} (hl:litB e.val.length l=true) (ht:e.tr.length<LIM) :
  Calls Try.prog 47 #[.pointer (some ⟨g,0,none⟩), .int .i64 l, .int .i64 r] w (fQ κ w g t rest x eF (.tuple #[]) V (e.assign l r)):=by
 obtain ⟨iI,hiI,hzI0,hzI1,hzI2⟩:=qC gI
 obtain ⟨vc,vi,vt,vs,gv,gr,gl,bm,us,mv⟩:=V
 obtain ⟨l0,l1⟩:=wY hl
 have hi:=gM (by have:=h.B;omega) hl
 obtain ⟨At,ct,hvt, -, -⟩:=h.tr.shape
 obtain ⟨As,cs,hvs, -, -⟩:=h.st.shape
 simp only at hvt hvs
 subst hvt hvs
 have HV:=Lib.hid (fun W=>gX l l0 hi.1 hi.2 W)
 have H1:=Lib.hid (h.setVal (vr l) (y:=1) (by simp))
 have y3:((vr l:Nat):Int)<(e.val.length:Int):=by omega
 have q3:=h.cellE (i:=3) rfl
 have qv:=h.valAt l1
 have zv:=h.val.frozen (vr l)
 generalize hvr:vr l=v at *
 have HF1:Hid (Fr κ κ w (w.setCell ⟨gv,v,none⟩ (.int .i8 1)) eF):=(frs κ w h.val.k).mono fun s hs=>by subst hs;trivial
 have HT:=Lib.hid ht
 clear h hl ht
 go_enter Try.func47,Try.ntmps47
 go_wp2_with fail
 refine (HV.out _).mono ?_
 rintro en W ⟨rfl,rfl⟩
 clear HV
 go_upto_region 2 with fail
 generalize w.setCell ⟨gv,v,none⟩ (.int .i8 1)=W1 at *
 clear q3 qv zv
 rcases uI l0 with hlt|hlt
 ·have hb:decide (l<0)=true:=by simpa using hlt
  have q3:=H1.out.cellE (i:=3) rfl
  have qv:=H1.out.valAt (v:=v) (by simpa using l1)
  have zv:=H1.out.val.frozen v
  have H2:=Lib.hid (H1.out.setVal v (y := -1) (by simp))
  have HF2:Hid (Fr κ κ w (W1.setCell ⟨gv,v,none⟩ (.int .i8 (-1))) eF):=HF1.out.trans ((frs κ W1 H1.out.val.k).mono fun s hs=>by subst hs;trivial)
  have HSG:Hid (l<0):=Lib.hid hlt
  simp only [qE] at q3
  clear H1 HF1
  go_upto_region 4 with fail
  generalize W1.setCell ⟨gv,v,none⟩ (.int .i8 (-1))=W2 at *
  clear q3 qv zv
  have q4:=H2.out.cellE (i:=4) rfl
  have qr:=H2.out.rsnAt (v:=v) (by simpa using l1)
  have zr:=H2.out.rsn.frozen v
  have H3:=Lib.hid (H2.out.setRsn v r)
  have HF3:Hid (Fr κ κ w (W2.setCell ⟨gr,v,none⟩ (.int .i64 r)) eF):=HF2.out.trans ((frs κ W2 H2.out.rsn.k).mono fun s hs=>by subst hs;trivial)
  simp only [qE] at q4
  clear H2 HF2 hb hlt
  go_upto_region 5 with fail
  generalize W2.setCell ⟨gr,v,none⟩ (.int .i64 r)=W3 at *
  clear q4 qr zr
  have q5:=H3.out.cellE (i:=5) rfl
  have q7:=H3.out.cellE (i:=7) rfl
  have ql:=H3.out.lvlAt (v:=v) (by simpa using l1)
  have zl:=H3.out.lvl.frozen v
  have H4:Hid (EngM κ (W3.setCell ⟨gl,v,none⟩ (.int .i64 (e.st.length:Int))).drew g t rest x _ _):=Lib.hid ((H3.out.setLvl v (e.st.length:Int)).drewN 1)
  have HF4:Hid (Fr κ κ w (W3.setCell ⟨gl,v,none⟩ (.int .i64 (e.st.length:Int))).drew eF):=HF3.out.trans (((frs κ W3 H3.out.lvl.k).mono fun s hs=>by subst hs;trivial).trans (Fr.drew _ _ _))
  simp only [qE] at q5 q7
  clear H3 HF3
  go_region
  generalize (W3.setCell ⟨gl,v,none⟩ (.int .i64 (e.st.length:Int))).drew=W4 at *
  clear q5 q7 ql zl
  have q6:=H4.out.cellE (i:=6) rfl
  have H63:Hid (e.tr.length+1≤maxLen):=by refine Lib.hid ?_;have:=HT.out;unfold LIM at this;unfold maxLen;omega
  have HBY:Hid ((e.tr.length+1) * 8≤140737488355328):=by refine Lib.hid ?_;have:=HT.out;unfold LIM at this;omega
  go_wp2_with (at_builtin;refine zV _ rfl _ _ 33 rfl 0 3 iI (.int .i64 0) 1 8 Try.underlying33 hiI hzI0 hzI1 hzI2 rfl (by decide) _ _ _ rfl (H4.out.tr.o.alloc _) ⟨W4.heap.size,0,none⟩ 1 1 [.int .i64 l] rfl rfl (gD W4 _ _) ?a2 H63.out HBY.out (zS _) ?_)
  case a2=>first|rfl|(intro u hu;simp at hu;subst hu;rfl)
  intro v' w5 hown hgrow _ hat
  obtain ⟨κ',hb5,hE5,hf5⟩:=H4.out.pushTr hown hgrow (by simpa using hat)
  obtain ⟨A',c',hv', -, -⟩:=hE5.tr.shape
  simp only at hv'
  subst hv'
  have q6b:=hb5.cell 6
  have z6:=hb5.frozen 6
  simp only [EV.cells,qV,xW,zA,zC,zB] at q6b
  rw [show (e.tr++[l]).length=e.tr.length+1 by simp] at hE5 hf5
  have HE5:=Lib.hid hE5
  have HF5:Hid (Fr κ κ' w _ eF):=HF4.out.trans (hf5.mono fun s hs=>by rcases hs with rfl|rfl<;>trivial)
  clear hown hgrow hat hb5 hE5 hf5 H4 HF4 q6
  go_wp2_with fail
  go_end0
  refine ⟨rfl,κ',⟨vc,vi, .slice A' (e.tr.length+1) c', .slice As e.st.length cs,gv,gr,gl,bm,us,mv⟩,?_,HF5.out,rfl,rfl⟩
  have:=HE5.out
  simp only [Eng.assign,hvr,if_pos HSG.out]
  simpa using this
 ·have hb:decide (l<0)=false:=by simp;omega
  have HSG:Hid (0≤l):=Lib.hid (by omega)
  have H2:=H1
  have HF2:=HF1
  clear H1 HF1
  go_upto_region 4 with fail
  have q4:=H2.out.cellE (i:=4) rfl
  have qr:=H2.out.rsnAt (v:=v) (by simpa using l1)
  have zr:=H2.out.rsn.frozen v
  have H3:=Lib.hid (H2.out.setRsn v r)
  have HF3:Hid (Fr κ κ w (W1.setCell ⟨gr,v,none⟩ (.int .i64 r)) eF):=HF2.out.trans ((frs κ W1 H2.out.rsn.k).mono fun s hs=>by subst hs;trivial)
  simp only [qE] at q4
  clear H2 HF2 hb hlt
  go_upto_region 5 with fail
  generalize W1.setCell ⟨gr,v,none⟩ (.int .i64 r)=W3 at *
  clear q4 qr zr
  have q5:=H3.out.cellE (i:=5) rfl
  have q7:=H3.out.cellE (i:=7) rfl
  have ql:=H3.out.lvlAt (v:=v) (by simpa using l1)
  have zl:=H3.out.lvl.frozen v
  have H4:Hid (EngM κ (W3.setCell ⟨gl,v,none⟩ (.int .i64 (e.st.length:Int))).drew g t rest x _ _):=Lib.hid ((H3.out.setLvl v (e.st.length:Int)).drewN 1)
  have HF4:Hid (Fr κ κ w (W3.setCell ⟨gl,v,none⟩ (.int .i64 (e.st.length:Int))).drew eF):=HF3.out.trans (((frs κ W3 H3.out.lvl.k).mono fun s hs=>by subst hs;trivial).trans (Fr.drew _ _ _))
  simp only [qE] at q5 q7
  clear H3 HF3
  go_region
  generalize (W3.setCell ⟨gl,v,none⟩ (.int .i64 (e.st.length:Int))).drew=W4 at *
  clear q5 q7 ql zl
  have q6:=H4.out.cellE (i:=6) rfl
  have H63:Hid (e.tr.length+1≤maxLen):=by refine Lib.hid ?_;have:=HT.out;unfold LIM at this;unfold maxLen;omega
  have HBY:Hid ((e.tr.length+1) * 8≤140737488355328):=by refine Lib.hid ?_;have:=HT.out;unfold LIM at this;omega
  go_wp2_with (at_builtin;refine zV _ rfl _ _ 33 rfl 0 3 iI (.int .i64 0) 1 8 Try.underlying33 hiI hzI0 hzI1 hzI2 rfl (by decide) _ _ _ rfl (H4.out.tr.o.alloc _) ⟨W4.heap.size,0,none⟩ 1 1 [.int .i64 l] rfl rfl (gD W4 _ _) ?a2 H63.out HBY.out (zS _) ?_)
  case a2=>first|rfl|(intro u hu;simp at hu;subst hu;rfl)
  intro v' w5 hown hgrow _ hat
  obtain ⟨κ',hb5,hE5,hf5⟩:=H4.out.pushTr hown hgrow (by simpa using hat)
  obtain ⟨A',c',hv', -, -⟩:=hE5.tr.shape
  simp only at hv'
  subst hv'
  have q6b:=hb5.cell 6
  have z6:=hb5.frozen 6
  simp only [EV.cells,qV,xW,zA,zC,zB] at q6b
  rw [show (e.tr++[l]).length=e.tr.length+1 by simp] at hE5 hf5
  have HE5:=Lib.hid hE5
  have HF5:Hid (Fr κ κ' w _ eF):=HF4.out.trans (hf5.mono fun s hs=>by rcases hs with rfl|rfl<;>trivial)
  clear hown hgrow hat hb5 hE5 hf5 H4 HF4 q6
  go_wp2_with fail
  go_end0
  refine ⟨rfl,κ',⟨vc,vi, .slice A' (e.tr.length+1) c', .slice As e.st.length cs,gv,gr,gl,bm,us,mv⟩,?_,HF5.out,rfl,rfl⟩
  have:=HE5.out
  simp only [Eng.assign,hvr,if_neg (show ¬l<0 from Int.not_lt.2 HSG.out)]
  simpa using this
end
end Go.Proofs.Yticieifacalocaa
