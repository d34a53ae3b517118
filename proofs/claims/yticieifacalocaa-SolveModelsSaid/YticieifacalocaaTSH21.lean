/- SolMem -/
import Derived.Test.YticieifacalocaaTSH11
import Derived.Test.YticieifacalocaaTSH20
import Derived.Deep.Cut
import Derived.Maps.OwnSet
namespace Go.Proofs.Yticieifacalocaa
open Go.RowKit
inductive Col where
 | slv|cls|inp|wat|val|rsn|lvl|tr|st|num|arcs|act|org|unt|acty
 | cl (c:Nat)
 | wt (l:Int)
 | ar (y:Nat)
 | och (c:Nat)
 | olt (c:Nat)
 | tmp (i:Nat)
 deriving DecidableEq
abbrev Kap:=Nat→Option Col
def kset (κ:Kap) (k:Nat) (s:Col):Kap:=fun j=>if j=k then some s else κ j
structure Fr (κ κ':Kap) (w w':World) (S:Col→Prop):Prop where
 os:w'.os=w.os
 tape:w'.tape=w.tape
 output:w'.output=w.output
 size:w.heap.size≤w'.heap.size
 ext:∀k,k<w.heap.size→κ' k=κ k
 blk:∀k,k<w.heap.size→(∀s,κ k=some s→¬S s)→w'.heap[k]? = w.heap[k]?
section
variable {κ κ' κ2:Kap} {w w' w2:World} {S T:Col→Prop} {s:Col}
theorem Fr.refl (κ:Kap) (w:World) (S:Col→Prop):Fr κ κ w w S:=⟨rfl,rfl,rfl,Nat.le_refl _,fun _ _=>rfl,fun _ _ _=>rfl⟩
theorem Fr.trans (h:Fr κ κ' w w' S) (k:Fr κ' κ2 w' w2 S):Fr κ κ2 w w2 S :=
 ⟨k.os.trans h.os,k.tape.trans h.tape,k.output.trans h.output,qA h.size k.size,fun j hj=>(k.ext j (zZ hj h.size)).trans (h.ext j hj),
  fun j hj hs=>(k.blk j (zZ hj h.size) (fun s e=>hs s (by rw [←h.ext j hj];exact e))).trans (h.blk j hj hs)⟩
theorem Fr.mono (h:Fr κ κ' w w' S) (hS:∀s,S s→T s):Fr κ κ' w w' T:=⟨h.os,h.tape,h.output,h.size,h.ext,fun j hj hs=>h.blk j hj fun s e hc=>hs s e (hS s hc)⟩
theorem Fr.alloc (κ:Kap) (w:World) (o:Obj) (S:Col→Prop):Fr κ κ w (w.alloc o) S :=
 ⟨rfl,rfl,rfl,by simp,fun _ _=>rfl,fun k hk _=>Below.heap_alloc w o k hk⟩
theorem Fr.drew (κ:Kap) (w:World) (S:Col→Prop):Fr κ κ w w.drew S:=⟨rfl,rfl,rfl,Nat.le_refl _,fun _ _=>rfl,fun _ _ _=>rfl⟩
theorem Fr.drewN (κ:Kap) (w:World) (n:Nat) (S:Col→Prop):Fr κ κ w (w.drewN n) S:=⟨rfl,rfl,rfl,Nat.le_refl _,fun _ _=>rfl,fun _ _ _=>rfl⟩
theorem Fr.grown {g:Nat} (κ:Kap) (hg:w.grownBy w' (some g)) (hk:κ g=some s) (hs:S s):Fr κ κ w w' S :=
 ⟨hg.os,hg.tape,hg.output,hg.size,fun _ _=>rfl,fun k hk2 hn=>hg.block k hk2 fun e=>by injection e with e;subst e;exact hn s hk hs⟩
theorem Fr.set (κ:Kap) (w:World) {g i:Nat} {u:Value} (hk:κ g=some s) (hs:S s):Fr κ κ w (w.setCell ⟨g,i,none⟩ u) S:=Fr.grown κ (jY w g i u) hk hs
theorem Fr.kept (κ:Kap) (hb:Below w.heap.size w w') (S:Col→Prop):Fr κ κ w w' S:=⟨hb.os,hb.tape,hb.output,hb.size,fun _ _=>rfl,fun k hk _=>hb.block k hk⟩
theorem Fr.paint (h:Fr κ κ' w w' S) {k:Nat} (hk:w.heap.size≤k) (s:Col):Fr κ (kset κ' k s) w w' S :=
 ⟨h.os,h.tape,h.output,h.size,fun j hj=>by unfold kset;rw [if_neg (by omega)];exact h.ext j hj,h.blk⟩
theorem Fr.below (h:Fr κ κ' w w' S) {B:Nat} (hB:B≤w.heap.size) (hn:∀k,k<B→κ k=none):Below B w w' :=
 ⟨h.os,h.tape,h.output,h.size,fun k hk=>h.blk k (zZ hk hB) fun s e=>by rw [hn k hk] at e;cases e⟩
theorem Fr.loc (h:Fr κ κ' w w' S) {gl:Option Nat} (hg:w'.grownBy w2 gl) (hn:∀k,gl=some k→w.heap.size≤k):Fr κ κ' w w2 S :=
 ⟨hg.os.trans h.os,hg.tape.trans h.tape,hg.output.trans h.output,qA h.size hg.size,h.ext,fun k hk hs=>(hg.block k (zZ hk h.size) fun e=>by have:=hn k e.symm;omega).trans (h.blk k hk hs)⟩
theorem Fr.recol (h:Fr κ κ' w w' S) (hk:∀k,k<w.heap.size→κ2 k=κ' k):Fr κ κ2 w w' S:=⟨h.os,h.tape,h.output,h.size,fun k hl=>(hk k hl).trans (h.ext k hl),h.blk⟩
structure HB (κ:Kap) (w:World) (s:Col) (g:Nat) (t:TypeId) (cs:Array Value):Prop where
 b:Blk w g t cs
 k:κ g=some s
theorem HB.fr {g:Nat} {t:TypeId} {cs:Array Value} (h:HB κ w s g t cs) (f:Fr κ κ' w w' S) (hs:¬S s):HB κ' w' s g t cs :=
 ⟨(f.blk g h.b.lt fun s' e=>by rw [h.k] at e;injection e with e;subst e;exact hs).trans h.b,(f.ext g h.b.lt).trans h.k⟩
theorem HB.cell {g:Nat} {t:TypeId} {cs:Array Value} (h:HB κ w s g t cs) (i:Nat):w.cell? ⟨g,i,none⟩=cs[i]? := h.b.cell i
theorem HB.frozen {g:Nat} {t:TypeId} {cs:Array Value} (h:HB κ w s g t cs) (i:Nat):w.frozen? ⟨g,i,none⟩=false:=h.b.frozen i
theorem HB.set_ {g:Nat} {t:TypeId} {cs:Array Value} (h:HB κ w s g t cs) (i:Nat) (u:Value):HB κ (w.setCell ⟨g,i,none⟩ u) s g t (cs.setIfInBounds i u):=⟨h.b.set_ i u,h.k⟩
structure Hold (κ:Kap) (w:World) (s:Col) (e:TypeId) (sz:Nat) (v:Value) (n:Nat) (xs:List Value):Prop where
 o:w.ownsRow 0 e sz v n xs
 k:∀k,v.ownBlock=some k→κ k=some s
section
variable {e:TypeId} {sz n:Nat} {v:Value} {xs:List Value}
theorem Hold.nil (κ:Kap) (w:World) (s:Col) (e:TypeId) (sz:Nat):Hold κ w s e sz (.slice none 0 0) 0 []:=⟨qE _ _ _ _,by simp [Value.ownBlock]⟩
theorem Hold.fr (h:Hold κ w s e sz v n xs) (f:Fr κ κ' w w' S) (hs:¬S s):Hold κ' w' s e sz v n xs:=by
 refine ⟨⟨h.o.1,?_⟩,fun k hk => ?_⟩
 ·rcases h.o.2 with hn|⟨g,cap,cur,rfl,hg,hgg,rest⟩
  ·exact .inl hn
  ·exact .inr ⟨g,cap,cur,rfl,hg,(f.blk g (yP.1 hgg).1 fun s' e'=>by rw [h.k g rfl] at e';injection e' with e';subst e';exact hs).trans hgg,rest⟩
 ·rw [f.ext k (h.o.lt k hk).2];exact h.k k hk
theorem Hold.open_ (h:Hold κ w s e sz v n xs) (hn:0<n):∃g cap,v = .slice (some ⟨g,0,none⟩) n cap∧κ g=some s∧g<w.heap.size∧n≤cap∧cap≤maxLen∧(∀j u,xs[j]? = some u→w.cell? ⟨g,j,none⟩=some u)∧∀j,w.frozen? ⟨g,j,none⟩=false:=by
 rcases h.o.2 with ⟨_,h0⟩|⟨g,cap,cur,rfl,hg,hgg,hnc,hm,hs,ht⟩
 ·omega
 ·obtain ⟨_,h2,h3,h4,h5⟩:=aG h.o
  exact ⟨g,cap,rfl,h.k g rfl,h2,h3,h4,fun j u hu=>by have:=h5 j u hu;rwa [qZ] at this,fun j=>by simp [World.frozen?,hgg]⟩
theorem Hold.shape (h:Hold κ w s e sz v n xs):∃A c,v = .slice A n c∧n≤c∧c≤maxLen:=by
 obtain ⟨A,c,h1,h2,h3, -⟩:=wB h.o
 exact ⟨A,c,h1,h2,h3⟩
theorem Hold.set_ {g cap:Nat} (h:Hold κ w s e sz (.slice (some ⟨g,0,none⟩) n cap) n xs) (i:Nat) (u:Value):Hold κ (w.setCell ⟨g,i,none⟩ u) s e sz (.slice (some ⟨g,0,none⟩) n cap) n (xs.set i u):=by
 refine ⟨⟨by rw [zX];exact h.o.1,?_⟩,h.k⟩
 rcases h.o.2 with ⟨h0,_⟩|⟨g',cap',cur,hv,hg,hh,hn,hm,hs,ht⟩
 ·cases h0
 ·cases hv
  refine .inr ⟨g,cap,cur.setIfInBounds i u,rfl,hg,?_,hn,hm,by simpa using hs,?_⟩
  ·have:Blk w g e cur:=hh
   exact this.set_ i u
  ·rw [uA,List.take_set,ht]
theorem Hold.app {v':Value} {m:Nat} {ys:List Value} (h:Hold κ w s e sz v n xs) (ho:w'.ownsRow 0 e sz v' m ys) (hg:w.grownBy w' v.ownBlock) (hat:v'.ownBlock=v.ownBlock∨v'.ownBlock=some w.heap.size) (hs:S s) :
  ∃κ',Hold κ' w' s e sz v' m ys∧Fr κ κ' w w' S:=by
 have f0:Fr κ κ w w' S:=⟨hg.os,hg.tape,hg.output,hg.size,fun _ _=>rfl,fun k hk hn=>hg.block k hk fun e'=>hn s (h.k k e'.symm) hs⟩
 rcases hat with e1|e1
 ·exact ⟨κ,⟨ho,fun k hk=>h.k k (by rw [←e1];exact hk)⟩,f0⟩
 ·refine ⟨kset κ w.heap.size s,⟨ho,fun k hk => ?_⟩,f0.paint (Nat.le_refl _) s⟩
  rw [e1] at hk
  injection hk with hk
  subst hk
  unfold kset;rw [if_pos rfl]
theorem Hold.cut (h:Hold κ w s e sz v n xs) {m:Nat} (hm:m≤n) {A:Option Addr} {c:Nat} (hv:v = .slice A n c):Hold κ w s e sz (.slice A m c) m (xs.take (m * sz)):=by
 subst hv
 rcases h.o.2 with ⟨h0,h1⟩|⟨g,cap,cur,hv,hg,hh,hn,hmx,hs,ht⟩
 ·cases h0
  have:m=0:=by omega
  subst this
  rw [uP,uD]
  exact Hold.nil κ w s e sz
 ·cases hv
  refine ⟨⟨by rw [qO,h.o.1];exact yG (kT _ hm), .inr ⟨g,c,cur,rfl,hg,hh,by omega,hmx,hs,?_⟩⟩,fun k hk=>h.k k hk⟩
  rw [←ht,yY,yG (kT _ hm)]
end
end
theorem HB.new (κ:Kap) (w:World) (s:Col) (cs:Array Value) (t:TypeId):HB (kset κ w.heap.size s) (w.alloc (.cells cs t)) s w.heap.size t cs :=
 ⟨Blk.new w _ _,by unfold kset;rw [if_pos rfl]⟩
theorem Fr.row {s:Col} {S:Col→Prop} (κ:Kap) (w:World) {g:Nat} {cs:Array Value} (hk:κ g=some s) (hs:S s):Fr κ κ w (w.setRow g cs) S :=
 Fr.grown κ ⟨rfl,rfl,rfl,by simp [World.setRow],fun k _ hk=>vP w g k _ (fun e=>hk (by rw [e]))⟩ hk hs
theorem HB.row {κ:Kap} {w:World} {s:Col} {g:Nat} {t:TypeId} {cs:Array Value} (h:HB κ w s g t cs) (cs':Array Value):HB κ (w.setRow g cs') s g t cs':=⟨vJ w g cs cs' t _ h.b,h.k⟩
theorem Fr.make (κ:Kap) (w:World) (o:Obj) (s:Col) (S:Col→Prop):Fr κ (kset κ w.heap.size s) w (w.alloc o) S:=(Fr.alloc κ w o S).paint (Nat.le_refl _) s
def ci (xs:List Int):List Value:=xs.map (Value.int .i64)
def cn (xs:List Nat):List Value:=xs.map fun (x:Nat)=>Value.int .i64 (x:Int)
theorem wU {xs:List Int} {k:Nat} {x:Int} (h:xs[k]? = some x):(ci xs)[k]? = some (.int .i64 x):=by unfold ci;rw [List.getElem?_map,h];rfl
theorem cn_at {xs:List Nat} {k:Nat} {x:Nat} (h:xs[k]? = some x):(cn xs)[k]? = some (.int .i64 (x:Int)):=by unfold cn;rw [List.getElem?_map,h];rfl
theorem fO (xs:List Int):(ci xs).length=xs.length:=by simp [ci]
theorem gP (xs:List Nat):(cn xs).length=xs.length:=by simp [cn]
def heldR (v:Value):Option (DataW Value × List MemPlace):=some (.held v,[])
def nilS:Value := .slice none 0 0
def keyL (k:Int):Lit := .int .i64 k
structure MapC (κ:Kap) (w:World) (b B:Nat) (m:Int→Value):Prop where
 d:∃(D:DataW Value) (ks:List Int),w.ownsMap Try.prog 3 heldR b (Maps.size D) D∧Maps.Tidy D∧ks.Nodup∧Maps.size D=ks.length∧(∀k,Maps.has D (keyL k)=true↔k∈ks)∧(∀k∈ks,litB B k=true)∧∀k,D.atKey (keyL k) (.held nilS) = .held (m k)
 k:κ b=some .wat
section
variable {κ κ':Kap} {w w':World} {b B:Nat} {m:Int→Value} {S:Col→Prop}
theorem MapC.lt (h:MapC κ w b B m):b<w.heap.size:=by obtain ⟨⟨D,ks,h1,_⟩,_⟩:=h;exact h1.lt
theorem MapC.fr (h:MapC κ w b B m) (f:Fr κ κ' w w' S) (hs:¬S .wat):MapC κ' w' b B m:=by
 have hlt:=h.lt
 have hk:=h.k
 obtain ⟨⟨D,ks,⟨es,clock,hb,F,hs1,hD⟩,h2⟩,_⟩:=h
 exact ⟨⟨D,ks,⟨es,clock,(f.blk b hlt fun s' e=>by rw [hk] at e;injection e with e;subst e;exact hs).trans hb,F,hs1,hD⟩,h2⟩,(f.ext b hlt).trans hk⟩
theorem key_int:Maps.Keyed Try.prog 3:=Maps.int_keyed Try.underlying3
theorem wZ {B:Nat} (hB:B≤1048576) {k:Int} (h:litB B k=true) : -1048576≤k∧k≤1048576:=by
 have:=(kP h:k≠0∧vr k<B)
 unfold vr at this
 omega
theorem keyOf_i64 {k:Int} (h1 : -9223372036854775808≤k) (h2:k≤9223372036854775807):keyOf Try.prog 3 (.int .i64 k)=some (keyL k) :=
 Maps.keyOf_int_mk Try.underlying3 (WalkArith.wf_i64 ⟨h1,h2⟩)
theorem zero_ints (w:World):(zeroValue 33).run Try.prog w = .ok nilS w:=by kernel_rfl
set_option maxRecDepth 100000 in
theorem MapC.look (h:MapC κ w b B m) {k:Int} (h1 : -9223372036854775808≤k) (h2:k≤9223372036854775807):(Instr.lookup 80 (.map (some b)) (.int .i64 k) false).run Try.prog w = .ok (m k) w:=by
 obtain ⟨⟨D,ks,g1,g2,g3,g4,g5,g6,g7⟩,_⟩:=h
 obtain ⟨v,ps,hr,hv⟩:=g1.lookup key_int Try.underlying80 (zero_ints w) (zd := .held nilS) (zp:=[]) rfl (keyOf_i64 h1 h2)
 rw [g7] at hv
 unfold heldR at hv
 injection hv with hv
 injection hv with hv _
 injection hv with hv
 rw [hr,hv]
def updV (m:Int→Value) (k:Int) (v:Value):Int→Value:=fun j=>if j=k then v else m j
theorem own_size {D:DataW Value} {n:Nat} (h:w.ownsMap Try.prog 3 heldR b n D):w.ownsMap Try.prog 3 heldR b (Maps.size D) D:=by
 obtain ⟨es,clock,hb,F,hs,hD⟩:=h
 refine ⟨es,clock,hb,F,?_,hD⟩
 rw [hD]
 show es.size≤((es.toList.map _).foldr DataW.insert []).length
 rw [length_sorted];simp
set_option maxRecDepth 100000 in
theorem MapC.store (h:MapC κ w b B m) {k:Int} {v:Value} (hk:litB B k=true) (hB:B≤1048576) :
  ∃w',(Instr.mapUpdate 80 (.map (some b)) (.int .i64 k) v).run Try.prog w = .ok () w'∧MapC κ w' b B (updV m k v)∧w.grownBy w' (some b):=by
 have hk1:=wZ hB hk
 have hkk:=h.k
 obtain ⟨⟨D,ks,g1,g2,g3,g4,g5,g6,g7⟩,_⟩:=h
 have hsize:Maps.size D≤2097153:=by
  rw [g4]
  have h1:(ks.map fun x=>x+1048576).Nodup:=by
   unfold List.Nodup at g3 ⊢
   rw [yO]
   exact g3.imp fun h e=>h (by omega)
  have h2:=dI (N:=2097153) h1 (fun x hx=>by
   obtain ⟨y,hy,rfl⟩:=List.mem_map.1 hx
   have:=wZ hB (g6 y hy)
   omega)
  simpa using h2
 have hkey:WideAt.IsKeyLit (keyL k):=trivial
 obtain ⟨w',hr,hown,hg⟩:=g1.update key_int Try.underlying80 (by unfold maxLen;omega) (keyOf_i64 (k:=k) (by omega) (by omega)) (d := .held v) (ps:=[]) rfl
 refine ⟨w',hr,⟨⟨D.put (keyL k) (.held v),(if k∈ks then ks else ks++[k]),own_size hown,g2.put hkey _,?_,?_,fun j => ?_,fun j hj => ?_,fun j => ?_⟩,hkk⟩,hg⟩
 ·split
  ·exact g3
  ·rename_i hn
   rw [qG]
   refine ⟨g3,by simp,fun a ha c hc e => ?_⟩
   rw [zH] at hc
   subst hc e
   exact hn ha
 ·rw [Maps.size_put g2]
  by_cases hm:k∈ks
  ·rw [if_pos ((g5 k).2 hm),if_pos hm];exact g4
  ·rw [if_neg (fun e=>hm ((g5 k).1 e)),if_neg hm,g4];simp
 ·by_cases e:j=k
  ·subst e
   rw [Maps.has_put_same g2.isMap hkey]
   simp only [true_iff]
   split
   ·assumption
   ·simp
  ·rw [Maps.has_put_other (fun h=>e (by unfold keyL at h;injection h)),g5]
   split
   ·exact jQ
   ·simp [e]
 ·split at hj
  ·exact g6 j hj
  ·rcases zK.1 hj with hj|hj
   ·exact g6 j hj
   ·rw [zH] at hj;subst hj;exact hk
 ·unfold updV
  by_cases e:j=k
  ·subst e;rw [if_pos rfl,Maps.atKey_put_same g2.isMap hkey]
  ·rw [if_neg e,Maps.atKey_put_other (fun h=>e (by unfold keyL at h;injection h)),g7]
theorem MapC.made (κ:Kap) (w:World) (B:Nat):MapC (kset κ w.heap.size .wat) (w.alloc (.map #[] 0)) w.heap.size B (fun _=>nilS) :=
 ⟨⟨.map [],[],World.ownsMap_made _ _ _ _,Maps.tidy_empty,List.nodup_nil,rfl,fun k=>by simp [Maps.has],by simp,fun k=>rfl⟩,by unfold kset;rw [if_pos rfl]⟩
end
end Go.Proofs.Yticieifacalocaa
