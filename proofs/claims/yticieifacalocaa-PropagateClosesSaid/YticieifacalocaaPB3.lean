/- Own Tape -/
import Derived.Test.YticieifacalocaaPB1
import Derived.Test.YticieifacalocaaPB2
namespace Go.Proofs.Yticieifacalocaa
open Go.RowKit
theorem info_int:(Try.prog.info? 3).map (fun i=>(i.zero,i.size,i.bytes))=some (some (.int .i64 0),1,8):=by kernel_rfl
theorem info_ints:(Try.prog.info? 33).map (fun i=>(i.zero,i.size,i.bytes))=some (some (.slice none 0 0),1,24):=by kernel_rfl
theorem info_diff:(Try.prog.info? 50).map (fun i=>(i.zero,i.size,i.bytes))=some (some (.agg #[.int .i64 0, .int .i64 0, .int .i64 0]),3,24):=by kernel_rfl
def Own (w':World) (base:Nat) (v:Value) (xs:List Int):Prop :=
 w'.ownsRow base 3 1 v xs.length (xs.map (Value.int .i64))∧∀x∈xs,I64 x
theorem rd_of_row {w:World} {base g n cap k:Nat} {e:TypeId} {xs:List Value} (h:w.ownsRow base e k (.slice (some ⟨g,0,none⟩) n cap) n xs):base≤g∧g<w.heap.size∧n≤cap∧cap≤maxLen∧∀j u,xs[j]? = some u→w.cell? ⟨g,0+j,none⟩=some u:=by
 rcases h.2 with ⟨h0,_⟩|⟨g',cap',cur,hv,hg,hh,hn,hm,hs,ht⟩
 ·cases h0
 ·cases hv
  refine ⟨hg,(Array.getElem?_eq_some_iff.1 hh).1,hn,hm,fun j u hu => ?_⟩
  rw [Nat.zero_add,cell_of_row w g j cur e (0,0) hh]
  rw [←ht,List.getElem?_take] at hu
  split at hu
  ·simpa using hu
  ·cases hu
theorem owns_shape {w:World} {base n k:Nat} {e:TypeId} {v:Value} {xs:List Value} (h:w.ownsRow base e k v n xs):(v = .slice none 0 0∧n=0∧xs=[])∨∃g cap,v = .slice (some ⟨g,0,none⟩) n cap:=by
 rcases h.2 with ⟨rfl,rfl⟩|⟨g,cap,_,rfl,_⟩
 ·exact .inl ⟨rfl,rfl,List.eq_nil_of_length_eq_zero (by simpa using h.1)⟩
 ·exact .inr ⟨g,cap,rfl⟩
theorem owns_rd {w:World} {base n k:Nat} {e:TypeId} {v:Value} {xs:List Value} (h:w.ownsRow base e k v n xs):∃A c,v = .slice A n c∧n≤c∧c≤maxLen∧Rd w A xs:=by
 rcases owns_shape h with ⟨rfl,rfl,rfl⟩|⟨g,cap,rfl⟩
 ·exact ⟨none,0,rfl,Nat.le_refl _,by simp [maxLen],Rd.nil _ _⟩
 ·obtain ⟨h1,h2,h3,h4,h5⟩:=rd_of_row h
  exact ⟨_,cap,rfl,h3,h4,fun _=>⟨g,0,rfl,h2,h5⟩⟩
theorem Own.ints {w:World} {base:Nat} {v:Value} {xs:List Int} (h:Own w base v xs):Ints w v xs:=by
 obtain ⟨A,c,h1,h2,h3,h4⟩:=owns_rd h.1
 exact ⟨A,c,h1,h2,h3,h.2,h4⟩
theorem owns_diffs {w:World} {base:Nat} {v:Value} {ds:List Diff} (h:w.ownsRow base 50 3 v ds.length (ds.flatMap Diff.cells)) (hk:∀d∈ds,d.ok):Diffs w v ds:=by
 obtain ⟨A,c,h1,h2,h3,h4⟩:=owns_rd h
 exact ⟨A,c,h1,h2,h3,hk,h4⟩
def IntsO (w:World) (P:Nat→Prop) (v:Value) (xs:List Int):Prop :=
 ∃A c,v = .slice A xs.length c∧xs.length≤c∧c≤maxLen∧(∀x∈xs,I64 x) ∧
  (0<xs.length→∃b off,A=some ⟨b,off,none⟩∧b<w.heap.size∧P b∧∀j u,(xs.map (Value.int .i64))[j]? = some u→w.cell? ⟨b,off+j,none⟩=some u)
section
variable {w w':World} {P Q:Nat→Prop} {v:Value} {xs:List Int} {base:Nat}
theorem IntsO.ints (h:IntsO w P v xs):Ints w v xs:=by
 obtain ⟨A,c,h1,h2,h3,h4,h5⟩:=h
 exact ⟨A,c,h1,h2,h3,h4,fun h0=>by obtain ⟨b,off,a1,a2,_,a4⟩:=h5 (by simpa using h0);exact ⟨b,off,a1,a2,a4⟩⟩
theorem IntsO.mono (h:IntsO w P v xs) (hP:∀b,b<w.heap.size→P b→Q b):IntsO w Q v xs:=by
 obtain ⟨A,c,h1,h2,h3,h4,h5⟩:=h
 exact ⟨A,c,h1,h2,h3,h4,fun h0=>by obtain ⟨b,off,a1,a2,a3,a4⟩:=h5 h0;exact ⟨b,off,a1,a2,hP b a2 a3,a4⟩⟩
theorem IntsO.grown {row:Option Nat} (h:IntsO w P v xs) (hg:w.grownBy w' row) (hne:∀b,P b→some b≠row):IntsO w' P v xs:=by
 obtain ⟨A,c,h1,h2,h3,h4,h5⟩:=h
 exact ⟨A,c,h1,h2,h3,h4,fun h0=>by obtain ⟨b,off,a1,a2,a3,a4⟩:=h5 h0;exact ⟨b,off,a1,Nat.lt_of_lt_of_le a2 hg.size,a3,fun j u hu=>hg.cell (a4 j u hu) (hne b a3)⟩⟩
theorem IntsO.keep (h:IntsO w P v xs) (hb:Below w.heap.size w w'):IntsO w' P v xs:=by
 obtain ⟨A,c,h1,h2,h3,h4,h5⟩:=h
 exact ⟨A,c,h1,h2,h3,h4,fun h0=>by obtain ⟨b,off,a1,a2,a3,a4⟩:=h5 h0;exact ⟨b,off,a1,Nat.lt_of_lt_of_le a2 hb.size,a3,fun j u hu=>(hb.cell (p:=⟨b,off+j,none⟩) a2).trans (a4 j u hu)⟩⟩
theorem Own.intsO (h:Own w base v xs) (hP:∀b,base≤b→b<w.heap.size→v.ownBlock=some b→P b):IntsO w P v xs:=by
 rcases owns_shape h.1 with ⟨rfl,h0,_⟩|⟨g,cap,rfl⟩
 ·obtain rfl:xs=[]:=List.eq_nil_of_length_eq_zero h0
  exact ⟨none,0,rfl,by simp,by simp [maxLen],by simp,by simp⟩
 ·obtain ⟨h1,h2,h3,h4,h5⟩:=rd_of_row h.1
  exact ⟨_,cap,rfl,h3,h4,h.2,fun _=>⟨g,0,rfl,h2,hP g h1 h2 rfl,h5⟩⟩
theorem Ints.intsO (h:Ints w v xs) (hP:∀b,b<w.heap.size→P b):IntsO w P v xs:=by
 obtain ⟨A,c,h1,h2,h3,h4,h5⟩:=h
 exact ⟨A,c,h1,h2,h3,h4,fun h0=>by obtain ⟨b,off,a1,a2,a4⟩:=h5 (by simpa using h0);exact ⟨b,off,a1,a2,hP b a2,a4⟩⟩
end
def OwnMat (w:World) (base:Nat) (P:Nat→Prop) (v:Value) (us:List Value) (xss:List (List Int)):Prop :=
 w.ownsRow base 33 1 v us.length us∧us.length=xss.length∧∀(k:Nat) (u:Value) (xs:List Int),us[k]? = some u→xss[k]? = some xs→IntsO w (fun b=>P b∧some b≠v.ownBlock) u xs
section
variable {w w':World} {P Q:Nat→Prop} {v u:Value} {us:List Value} {xss:List (List Int)} {xs:List Int} {base:Nat}
theorem OwnMat.nil (w:World) (base:Nat) (P:Nat→Prop):OwnMat w base P (.slice none 0 0) [] []:=⟨World.ownsRow_nil _ _ _ _,rfl,fun k u xs h=>by simp at h⟩
theorem OwnMat.mat (h:OwnMat w base P v us xss):Mat w v xss:=by
 obtain ⟨h1,h2,h3⟩:=h
 obtain ⟨A,c,q1,q2,q3,q4⟩:=owns_rd h1
 exact ⟨A,c,us,by rw [q1,h2],by omega,q3,h2,q4,fun k u xs a b=>(h3 k u xs a b).ints⟩
theorem OwnMat.grown {row:Option Nat} (h:OwnMat w base P v us xss) (hg:w.grownBy w' row) (hv:v.ownBlock=none∨v.ownBlock≠row) (hne:∀b,P b→some b≠row):OwnMat w' base P v us xss :=
 ⟨h.1.kept hg hv,h.2.1,fun k u xs a b=>(h.2.2 k u xs a b).grown hg fun b hb=>hne b hb.1⟩
theorem OwnMat.mono (h:OwnMat w base P v us xss) (hP:∀b,b<w.heap.size→P b→Q b):OwnMat w base Q v us xss :=
 ⟨h.1,h.2.1,fun k u xs a b=>(h.2.2 k u xs a b).mono fun b hb hp=>⟨hP b hb hp.1,hp.2⟩⟩
theorem owns_keep {w w':World} {base n k:Nat} {e:TypeId} {v:Value} {xs:List Value} (h:w.ownsRow base e k v n xs) (hb:Below w.heap.size w w'):w'.ownsRow base e k v n xs:=by
 refine ⟨h.1,?_⟩
 rcases h.2 with hn|⟨g,cap,cur,rfl,hg,hgg,rest⟩
 ·exact .inl hn
 ·exact .inr ⟨g,cap,cur,rfl,hg,(hb.block g (Array.getElem?_eq_some_iff.1 hgg).1).trans hgg,rest⟩
theorem OwnMat.keep (h:OwnMat w base P v us xss) (hb:Below w.heap.size w w'):OwnMat w' base P v us xss :=
 ⟨owns_keep h.1 hb,h.2.1,fun k u xs a b=>(h.2.2 k u xs a b).keep hb⟩
theorem grown_alloc (w:World) (o:Obj):w.grownBy (w.alloc o) none:=World.grownBy_alloc w o none
theorem OwnMat.push {v':Value} {o:Obj} (h:OwnMat w base P v us xss) (hu:IntsO w (fun b=>P b∧some b≠v.ownBlock) u xs)
  (ho:w'.ownsRow base 33 1 v' (us.length+1) (us++[u])) (hg:(w.alloc o).grownBy w' v.ownBlock) (hat:v'.ownBlock=v.ownBlock∨v'.ownBlock=some (w.alloc o).heap.size):OwnMat w' base P v' (us++[u]) (xss++[xs]):=by
 have key:∀{u xs},IntsO w (fun b=>P b∧some b≠v.ownBlock) u xs→IntsO w' (fun b=>P b∧some b≠v'.ownBlock) u xs:=by
  intro u xs h
  refine IntsO.mono (P:=fun b=>(P b∧some b≠v.ownBlock)∧b<w.heap.size) ?_ fun b _ hb=>⟨hb.1.1,?_⟩
  ·have h1:IntsO w (fun b=>(P b∧some b≠v.ownBlock)∧b<w.heap.size) u xs:=h.mono fun b h1 h2=>⟨h2,h1⟩
   exact (h1.grown (grown_alloc w o) (fun b _=>by simp)).grown hg fun b hb=>hb.1.2
  ·rcases hat with e|e<;>rw [e]
   ·exact hb.1.2
   ·simp;have:=hb.2;omega
 refine ⟨by simpa using ho,by simp [h.2.1],fun k u' xs' a b => ?_⟩
 by_cases hk:k<us.length
 ·rw [List.getElem?_append_left hk] at a
  rw [List.getElem?_append_left (by rw [←h.2.1];exact hk)] at b
  exact key (h.2.2 k u' xs' a b)
 ·rw [List.getElem?_append_right (by omega)] at a
  rw [List.getElem?_append_right (by rw [←h.2.1];omega),←h.2.1] at b
  have:k-us.length=0:=by
   have:=(List.getElem?_eq_some_iff.1 a).1
   simp at this;omega
  rw [this] at a b
  simp at a b
  subst a b
  exact key hu
end
theorem cells_at (w:World) (t:TypeId) (cs:List Value) {B:Nat} (hB:w.heap.size=B):∀j x,cs[j]? = some x→(w.alloc (.cells cs.toArray t)).cell? ((⟨B,0,none⟩:Addr).add j)=some x:=by
 intro j x hx
 subst hB
 have h:=(Blk.new w t cs.toArray).cell j
 rw [List.getElem?_toArray,hx] at h
 unfold Addr.add
 split
 ·rename_i h0;subst h0;exact h
 ·rw [Nat.zero_add];exact h
theorem one_at (w:World) (u:Value) (t:TypeId):∀j x,[u][j]? = some x→(w.alloc (.cells #[u] t)).cell? ((⟨w.heap.size,0,none⟩:Addr).add j)=some x:=cells_at w t [u] rfl
theorem Blk.grown {w w':World} {g:Nat} {t:TypeId} {cs:Array Value} {row:Option Nat} (h:Blk w g t cs) (hg:w.grownBy w' row) (hne:some g≠row):Blk w' g t cs:=(hg.block g h.lt hne).trans h
theorem grownBy_set0 (w:World) (g i:Nat) (u:Value):w.grownBy (w.setCell ⟨g,i,none⟩ u) (some g) :=
 ⟨rfl,rfl,rfl,by simp,fun k _ hne=>Below.heap_setCell w ⟨g,i,none⟩ u k (by simpa using hne)⟩
theorem grownBy_trans {a b c:World} {row:Option Nat} (h1:a.grownBy b row) (h2:b.grownBy c row):a.grownBy c row :=
 ⟨h2.os.trans h1.os,h2.tape.trans h1.tape,h2.output.trans h1.output,Nat.le_trans h1.size h2.size,fun k hk hne=>(h2.block k (Nat.lt_of_lt_of_le hk h1.size) hne).trans (h1.block k hk hne)⟩
theorem own_ne {w:World} {base n k g:Nat} {e:TypeId} {v:Value} {xs:List Value} (h:w.ownsRow base e k v n xs) (hg:g<base):v.ownBlock=none∨v.ownBlock≠some g:=by
 cases e:v.ownBlock with
 | none=>exact .inl rfl
 | some g'=>right;have:=h.lt g' e;simp;omega
theorem own_none (v:Value):v.ownBlock=none∨v.ownBlock≠none:=Classical.em _
theorem own_ne2 {v u:Value} {B:Nat} (hv:∀g,v.ownBlock=some g→g<B) (hu:∀g,u.ownBlock=some g→B≤g):v.ownBlock=none∨v.ownBlock≠u.ownBlock:=by
 cases e:v.ownBlock with
 | none=>exact .inl rfl
 | some g=>right;intro e';have:=hv g e;have:=hu g e'.symm;omega
def Apart (u v:Value):Prop:=∀g,u.ownBlock=some g→v.ownBlock≠some g
theorem Apart.symm {u v:Value} (h:Apart u v):Apart v u:=fun g e1 e2=>h g e2 e1
theorem Apart.ne {u v:Value} (h:Apart u v):u.ownBlock=none∨u.ownBlock≠v.ownBlock:=by
 cases e:u.ownBlock with
 | none=>exact .inl rfl
 | some g=>right;exact fun e'=>h g e e'.symm
theorem Apart.append {u v v':Value} {n:Nat} (h:Apart u v) (hu:∀g,u.ownBlock=some g→g<n) (hat:v'.ownBlock=v.ownBlock∨v'.ownBlock=some n):Apart u v':=by
 intro g e1 e2
 rcases hat with h1|h1
 ·exact h g e1 (h1.symm.trans e2)
 ·rw [h1] at e2;injection e2 with e2;have:=hu g e1;omega
end Go.Proofs.Yticieifacalocaa
namespace Go.Proofs.Yticieifacalocaa
open Go.RowKit
def Byts (w:World) (v:Value) (xs:List Int):Prop :=
 ∃A c,v = .slice A xs.length c∧xs.length≤c∧c≤maxLen∧(∀x∈xs,0≤x∧x≤255)∧Rd w A (xs.map (Value.int .u8))
theorem Byts.keep {w w':World} {v:Value} {xs:List Int} (h:Byts w v xs) (hb:Below w.heap.size w w'):Byts w' v xs:=by
 obtain ⟨A,c,hv,hl,hm,hx,hr⟩:=h
 exact ⟨A,c,hv,hl,hm,hx,hr.keep hb⟩
def NextRet (w:World) (g:Nat) (lv:Value) (len:Nat) (n:Int) (e:Ending) (w':World):Prop :=
 ∃(x:Int) (at':Nat),e = .returned (.int .i64 x)∧0≤x∧x<n∧at'≤len∧Blk w' g 101 #[lv, .int .i64 at']∧w.grownBy w' (some g)∧w'.heap.size=w.heap.size
set_option maxRecDepth 100000 in
set_option maxHeartbeats 1000000 in
theorem next_any (g:Nat) (lv:Value) (at_:Nat) (L:List Int) (n:Int) (w:World) (hB:Blk w g 101 #[lv, .int .i64 at_]) (hL:Byts w lv L) (h1:1≤n) (h2:n≤1000000) (hat:at_≤L.length) (hlen:L.length≤1000000) :
  Calls Try.prog 44 #[.pointer (some ⟨g,0,none⟩), .int .i64 n] w (NextRet w g lv L.length n):=by
 have q0:=hB.cell 0
 have q1:=hB.cell 1
 simp only [List.getElem?_toArray,List.getElem?_cons_zero,List.getElem?_cons_succ] at q0 q1
 have f1:=hB.frozen 1
 have hgl:=hB.lt
 have HB:=Lib.hid hB
 obtain ⟨A,c,rfl,k1,k2,k3,hr⟩:=hL
 have HR:=Lib.hid hr
 have HX:=Lib.hid k3
 clear hB k2 k3 hr
 have dn:decide (n<1)=false:=by simp;omega
 by_cases hlt:at_<L.length
 ·obtain ⟨x,hx⟩:∃x,L[at_]? = some x:=⟨_,List.getElem?_eq_getElem hlt⟩
  obtain ⟨b,o,rfl,hb,hc⟩:=HR.out.at_ (u := .int .u8 x) (by rw [List.getElem?_map,hx];rfl)
  obtain ⟨x1,x2⟩:=HX.out x (List.mem_of_getElem? hx)
  have hbg:b≠g:=by
   rintro rfl
   rw [HB.out.cell] at hc
   rcases h:o+at_ with _|_|m<;>rw [h] at hc<;>simp at hc
  clear hx
  have d1:decide ((L.length:Int)≤(at_:Int))=false:=by simp;omega
  go_enter Try.func44,Try.ntmps44
  go_wp2_with fail
  go_quiet (fail)
  go_wp2_with fail
  have B1:Blk ((w.drewN nq).setCell ⟨g,1,none⟩ (.int .i64 ((at_:Int)+1))) g 101 #[.slice (some ⟨b,o,none⟩) L.length c, .int .i64 ((at_:Int)+1)]:=(HB.out.drewN nq).set_ 1 _
  have hc1:((w.drewN nq).setCell ⟨g,1,none⟩ (.int .i64 ((at_:Int)+1))).cell? ⟨b,o+at_,none⟩=some (.int .u8 x) :=
   (World.cell?_of_block (a:=⟨b,o+at_,none⟩) (Below.heap_setCell (w.drewN nq) ⟨g,1,none⟩ _ b hbg)).trans hc
  have hgr:w.grownBy ((w.drewN nq).setCell ⟨g,1,none⟩ (.int .i64 ((at_:Int)+1))) (some g) :=
   ⟨rfl,rfl,rfl,by simp,fun k _ hne=>Below.heap_setCell (w.drewN nq) ⟨g,1,none⟩ _ k (by simpa using hne)⟩
  have hsz:((w.drewN nq).setCell ⟨g,1,none⟩ (.int .i64 ((at_:Int)+1))).heap.size=w.heap.size:=by simp
  generalize (w.drewN nq).setCell ⟨g,1,none⟩ (.int .i64 ((at_:Int)+1))=W at *
  have q0:=B1.cell 0
  have q1:=B1.cell 1
  simp only [List.getElem?_toArray,List.getElem?_cons_zero,List.getElem?_cons_succ] at q0 q1
  have HB1:=Lib.hid B1
  have HG:=Lib.hid hgr
  have HSZ:=Lib.hid hsz
  clear B1 hgr hc hsz
  have y1:IntKind.i64.wrap ((at_:Int)+1-1)=(at_:Int):=by rw [show (at_:Int)+1-1=at_ by omega];exact IntWalk.i64_in _ (by omega)
  have y2:((at_:Int)).toNat=at_:=by omega
  have y3:IntKind.i64.wrap x=x:=IntWalk.i64_in _ (by omega)
  have ym1:0≤x % n:=Int.emod_nonneg _ (by omega)
  have ym2:x % n<n:=Int.emod_lt_of_pos _ (by omega)
  have y4:IntKind.i64.wrap (x % n)=x % n:=IntWalk.i64_in _ (by omega)
  have y5:(n == 0)=false:=by simp;omega
  go_quiet (fail)
  go_wp2_with fail
  go_ret
  exact ⟨x % n,at_+1,rfl,ym1,ym2,by omega,HB1.out.drewN _,⟨HG.out.os,HG.out.tape,HG.out.output,HG.out.size,HG.out.block⟩,HSZ.out⟩
 ·have d1:decide ((L.length:Int)≤(at_:Int))=true:=by simp;omega
  go_enter Try.func44,Try.ntmps44
  go_wp2_with fail
  go_quiet (fail)
  go_wp2_with fail
  go_ret
  exact ⟨0,at_,rfl,by omega,by omega,hat,HB.out.drewN _,⟨rfl,rfl,rfl,Nat.le_refl _,fun _ _ _=>rfl⟩,rfl⟩
end Go.Proofs.Yticieifacalocaa
