/- SolMove -/
import Derived.Test.YticieifacalocaaTSH25
import Derived.Deep.RegionHeldLaw
namespace Go.Proofs.Yticieifacalocaa
open Go.RowKit
theorem openAt_is {val cl:List Int} {k:Nat} (h2:2≤k) (hk:k<cl.length) (h:∀j,2≤j→j<k→tv val (cl.getD j 0)<0) (h0:0≤tv val (cl.getD k 0)):openAt val cl 2=some k:=by
 cases ho:openAt val cl 2 with
 | none=>have:=fU ho k h2 hk;omega
 | some i =>
  obtain ⟨a1,a2,a3⟩:=cX ho
  rcases xJ i k with hlt|rfl|hgt
  ·have:=h i a1 hlt;omega
  ·rfl
  ·exfalso
   unfold openAt at ho
   obtain ⟨-,l1,l2,h5,h6⟩:=List.find?_eq_some_iff_append.1 ho
   have hm:k∈List.range' 2 (cl.length-2):=by rw [uU];exact ⟨k-2,by omega,by omega⟩
   have hp:=List.pairwise_lt_range' (s:=2) (n:=cl.length-2) (step:=1)
   rw [h5,kS,yX] at hp
   rw [h5] at hm
   rcases zK.1 hm with hm|hm
   ·have:=h6 k hm
    simp only [vK,decide_eq_false_iff_not] at this
    omega
   ·rcases zV.1 hm with e|hm
    ·omega
    ·have:=hp.2.1.1 k hm;omega
theorem openAt_no {val cl:List Int} {k:Nat} (hk:cl.length≤k) (h:∀j,2≤j→j<k→tv val (cl.getD j 0)<0):openAt val cl 2=none:=by
 cases ho:openAt val cl 2 with
 | none=>rfl
 | some i =>
  obtain ⟨a1,a2,a3⟩:=cX ho
  have:=h i a1 (by omega);omega
def mJ (x:Int) (c:Nat):Col→Prop
 | .cl d=>d=c
 | s=>pC x s
theorem movC_wat {x:Int} {c:Nat} {s:Col} (h:pC x s):mJ x c s:=by cases s<;>first|exact h|exact h.elim
theorem rT {x:Int} {c:Nat} {s:Col} (h:mJ x c s):wK s:=by cases s<;>first|trivial|exact h.elim
section
variable {κ:Kap} {w:World} {g:Nat} {t:TypeId} {rest:List Value} {x:Int} {e:Eng} {V:EV}
theorem EngM.setCl (h:EngM κ w g t rest x e V) {c gc n cap:Nat} (hu:V.us[c]? = some (.slice (some ⟨gc,0,none⟩) n cap)) (j:Nat) (y:Int) :
  EngM κ (w.setCell ⟨gc,j,none⟩ (.int .i64 y)) g t rest x { e with cls:=e.cls.set c ((e.cl c).set j y) } V:=by
 have hcu:V.us.length=e.cls.length:=by have:=h.cls.o.1;omega
 have hc:c<e.cls.length:=by have:=(zG.1 hu).1;omega
 have hk:=(h.cl c _ hu).k gc rfl
 have f:=frs κ w (i:=j) (u := .int .i64 y) hk
 refine ⟨h.blk.fr f (by simp),?_,fun d u hd => ?_,h.inp.fr f (by simp),h.val.fr f (by simp),h.rsn.fr f (by simp),h.lvl.fr f (by simp),h.rl,h.ll,h.tr.fr f (by simp),h.st.fr f (by simp),h.wat.fr f (by simp),fun l hl h0=>(h.wt l hl h0).fr f (by simp),h.B,h.v3⟩
 ·show Hold _ _ _ _ _ _ (e.cls.set c _).length _
  rw [zX];exact h.cls.fr f (by simp)
 ·have hcl:({ e with cls:=e.cls.set c ((e.cl c).set j y) }:Eng).cl d=if d=c then (e.cl c).set j y else e.cl d:=Eng.cl_set hc _ d
  rw [hcl]
  by_cases e1:d=c
  ·subst e1
   rw [hu] at hd
   injection hd with hd
   subst hd
   rw [if_pos rfl,bN,zX]
   have hn:=h.cl d _ hu
   obtain ⟨_,_,hs,_⟩:=hn.shape
   injection hs with _ hs _
   subst hs
   exact hn.set_ j (.int .i64 y)
  ·rw [if_neg e1]
   exact (h.cl d u hd).fr f (by simp [e1])
theorem EngM.clAt (h:EngM κ w g t rest x e V) {c gc n cap:Nat} (hu:V.us[c]? = some (.slice (some ⟨gc,0,none⟩) n cap)) {j:Nat} (hj:j<(e.cl c).length) :
  w.cell? ⟨gc,j,none⟩=some (.int .i64 ((e.cl c).getD j 0))∧w.frozen? ⟨gc,j,none⟩=false:=by
 obtain ⟨g2,cap2,e1, -, -, -, -,hcc2,hz⟩:=(h.cl c _ hu).open_ (by omega)
 injection e1 with e1 _ _
 injection e1 with e1
 injection e1 with e1 _ _
 subst e1
 exact ⟨hcc2 j _ (wU (getD_at hj)),hz j⟩
theorem Eng.swap_set {c i j:Nat} (hc:c<e.cls.length):(({ e with cls:=e.cls.set c ((e.cl c).set i ((e.cl c).getD j 0)) }:Eng) |> fun e1=>({ e1 with cls:=e1.cls.set c ((e1.cl c).set j ((e.cl c).getD i 0)) }:Eng))=e.swap c i j:=by
 have hcl:({ e with cls:=e.cls.set c ((e.cl c).set i ((e.cl c).getD j 0)) }:Eng).cl c=(e.cl c).set i ((e.cl c).getD j 0):=by
  have:=Eng.cl_set hc ((e.cl c).set i ((e.cl c).getD j 0)) c
  rw [if_pos rfl] at this
  exact this
 simp only [hcl,List.set_set]
 rfl
def MoveRet (κ:Kap) (w:World) (g:Nat) (t:TypeId) (rest:List Value) (x:Int) (c:Nat) (V:EV) (e:Eng) (en:Ending) (w':World):Prop :=
 match openAt e.val (e.cl c) 2 with
 | none=>en = .returned (.bool false)∧∃n,w'=w.drewN n
 | some i=>en = .returned (.bool true)∧∃κ' V',EngM κ' w' g t rest x (e.moved c i) V'∧Fr κ κ' w w' (mJ x c)∧V'.mv x=V.mv x
set_option maxRecDepth 100000 in
set_option maxHeartbeats 4000000 in
theorem bZ (h:EngM κ w g t rest x e V) {c:Nat} (hc:c<e.cls.length) (h2:2≤(e.cl c).length) (hcl:c≤1099511627776) (hlit:∀y∈e.cl c,litB e.val.length y=true)
  (hx:∀i,openAt e.val (e.cl c) 2=some i→(e.cl c).getD i 0≠x∧(e.wat ((e.cl c).getD i 0)).length<LIM) :
  Calls Try.prog 85 #[.pointer (some ⟨g,0,none⟩), .int .i64 (c:Int)] w (MoveRet κ w g t rest x c V e):=by
 obtain ⟨iI,hiI,hzI0,hzI1,hzI2⟩:=qD wV
 have hcu:V.us.length=e.cls.length:=by have:=h.cls.o.1;omega
 obtain ⟨u,hu⟩:∃u,V.us[c]? = some u:=⟨_,List.getElem?_eq_getElem (by omega)⟩
 obtain ⟨gc,capc,rfl,kc,gcl,hcap,hcm,hcc,hcz⟩:=(h.cl c u hu).open_ (by omega)
 obtain ⟨gs,caps,hvs,ks,gsl,hscap,hsm,hsc,hsz⟩:=h.cls.open_ (by omega)
 have q0:=h.cellE (i:=0) rfl
 have qc:=hsc c _ hu
 rw [hvs] at q0
 have HU:=Lib.hid hu
 have H0:=Lib.hid h
 have HX:=Lib.hid hx
 have HLIT:=Lib.hid hlit
 have y1:(c:Int)<(e.cls.length:Int):=by omega
 unfold maxLen at hcm hsm
 clear hsc hu hsz hvs hx hlit
 generalize hL:(e.cl c).length=L at *
 go_enter Try.func85,Try.ntmps85
 go_wp2_with fail
 go_loopw [6] (fun i wr=>∃k n:Nat,2≤k∧k≤L∧i = .int .i64 k∧(∀j,2≤j→j<k→tv e.val ((e.cl c).getD j 0)<0)∧wr=w.drewN n) (fun i _=>L-(intOf i).toNat)
 case atStart=>exact ⟨2,0,by omega,h2,rfl,fun j a b=>by omega,rfl⟩
 case round =>
  obtain ⟨k,n,hk2,hk,rfl,hneg,rfl⟩:=hrel
  have HNEG:=Lib.hid hneg
  clear hneg
  by_cases hlt:k<L
  ·have qk:=hcc k _ (wU (getD_at (show k<(e.cl c).length by omega)))
   generalize hle:(e.cl c).getD k 0=l at qk
   have HLE:=Lib.hid hle
   have hlb:=HLIT.out l (by rw [←hle];exact getD_mem (by omega))
   have HT:=Lib.hid (dN (H0.out.drewN n) hlb)
   have HLB:=Lib.hid hlb
   generalize htv:tv e.val l=y at HT
   have HTV:=Lib.hid htv
   clear hle hlb htv
   by_cases hy:0≤y
   ·have by_:decide (y≥0)=true:=by simpa using hy
    go_wp2_with fail
    refine HT.out.mono ?_
    rintro en w1 ⟨rfl,n1,rfl⟩
    have HO:Hid (openAt e.val (e.cl c) 2=some k):=Lib.hid (openAt_is hk2 (by omega) HNEG.out (by rw [HLE.out,HTV.out];exact hy))
    have HE0:Hid (EngM κ (w.drewN (n+n1)) g t rest x e V):=Lib.hid (H0.out.drewN _)
    have HF0:Hid (Fr κ κ w (w.drewN (n+n1)) (mJ x c)):=Lib.hid (Fr.drewN _ _ _ _)
    clear hcc q0 qc qk hcz
    clear hy HT
    go_upto_region 6 with fail
    clear by_
    generalize w.drewN (n+n1)=W0 at *
    obtain ⟨l1,hl1⟩:∃l1,l1=(e.cl c).getD 1 0:=⟨_,rfl⟩
    obtain ⟨q1,z1⟩:=HE0.out.clAt HU.out (j:=1) (by omega)
    obtain ⟨qk,zk⟩:=HE0.out.clAt HU.out (j:=k) (by omega)
    rw [←hl1] at q1
    rw [HLE.out] at qk
    have y2:(1:Int)<(L:Int):=by omega
    have y3:(k:Int)<(L:Int):=by omega
    have HE1:Hid (EngM κ ((W0.setCell ⟨gc,1,none⟩ (.int .i64 l)).setCell ⟨gc,k,none⟩ (.int .i64 l1)).drew g t rest x (e.swap c 1 k) V):=by
     refine Lib.hid ?_
     have h9:=((HE0.out.setCl HU.out 1 l).setCl HU.out k l1).drewN 1
     rw [←Eng.swap_set hc,HLE.out,←hl1]
     exact h9
    have HF1:Hid (Fr κ κ w ((W0.setCell ⟨gc,1,none⟩ (.int .i64 l)).setCell ⟨gc,k,none⟩ (.int .i64 l1)).drew (mJ x c)):=by
     have hkc:=(HE0.out.cl c _ HU.out).k gc rfl
     have f1:Fr κ κ W0 (W0.setCell ⟨gc,1,none⟩ (.int .i64 l)) (mJ x c):=Fr.set κ W0 hkc (show mJ x c (.cl c) from rfl)
     have f2:Fr κ κ (W0.setCell ⟨gc,1,none⟩ (.int .i64 l)) ((W0.setCell ⟨gc,1,none⟩ (.int .i64 l)).setCell ⟨gc,k,none⟩ (.int .i64 l1)) (mJ x c):=Fr.set κ _ hkc (show mJ x c (.cl c) from rfl)
     exact Lib.hid (HF0.out.trans ((f1.trans f2).trans (Fr.drew _ _ _)))
    clear hl1 HE0 HF0
    go_region
    generalize ((W0.setCell ⟨gc,1,none⟩ (.int .i64 l)).setCell ⟨gc,k,none⟩ (.int .i64 l1)).drew=W1 at *
    clear q1 z1 qk zk
    have hcs:(e.swap c 1 k).cl c=swp (e.cl c) 1 k:=by rw [Eng.cl_swap hc,if_pos rfl]
    have hg1:((e.swap c 1 k).cl c).getD 1 0=l:=by rw [hcs,swp_get (by omega) (by omega),if_neg (by omega),if_pos rfl,HLE.out]
    have hlen1:1<((e.swap c 1 k).cl c).length:=by rw [hcs,cH];omega
    have hX:=HX.out k HO.out
    rw [HLE.out] at hX
    have HXX:=Lib.hid hX
    have q1:=(HE1.out.clAt HU.out hlen1).1
    have q1a:=((HE1.out.alloc (.cells #[.int .i64 (c:Int)] 3)).clAt HU.out hlen1).1
    rw [hg1] at q1 q1a
    have HC1:Hid (∀κ' W',Hold κ' W' (.cl c) 3 1 (.slice (some ⟨gc,0,none⟩) L capc) ((e.swap c 1 k).cl c).length (ci ((e.swap c 1 k).cl c))→W'.cell? ⟨gc,1,none⟩=some (.int .i64 l)):=by
     refine Lib.hid fun κ' W' hH => ?_
     obtain ⟨g2,cap2,e1, -, -, -, -,hcc2, -⟩:=hH.open_ (by omega)
     injection e1 with e1 _ _
     injection e1 with e1
     injection e1 with e1 _ _
     subst e1
     have:=hcc2 1 _ (wU (getD_at hlen1))
     rw [hg1] at this;exact this
    have hli:=wZ (B:=e.val.length) (by have:=HE1.out.B;simp only [Eng.swap] at this;omega) HLB.out
    obtain ⟨Al,cl,hml, -, -⟩:=(HE1.out.wt l hX.1 (wN HLB.out).1).shape
    have HMR:=Lib.hid hml
    have hl0:(Instr.lookup 80 (.map (some V.bm)) (.int .i64 l) false).run Try.prog W1.drew = .ok (.slice Al (e.wat l).length cl) W1.drew:=by
     have:=(HE1.out.drewN 1).wat.look (k:=l) (by omega) (by omega)
     rw [hml] at this;exact this
    have hl1:(Instr.lookup 80 (.map (some V.bm)) (.int .i64 l) false).run Try.prog (W1.alloc (.cells #[.int .i64 (c:Int)] 3)).drew = .ok (.slice Al (e.wat l).length cl) (W1.alloc (.cells #[.int .i64 (c:Int)] 3)).drew:=by
     have:=((HE1.out.alloc (.cells #[.int .i64 (c:Int)] 3)).drewN 1).wat.look (k:=l) (by omega) (by omega)
     rw [hml] at this;exact this
    have HOW:Hid ((W1.alloc (.cells #[.int .i64 (c:Int)] 3)).drew.ownsRow 0 3 1 (.slice Al (e.wat l).length cl) (e.wat l).length (cn (e.wat l))):=by
     refine Lib.hid ?_
     have:=(((HE1.out.alloc (.cells #[.int .i64 (c:Int)] 3)).drewN 1).wt l hX.1 (wN HLB.out).1).o
     rw [hml] at this;exact this
    have q2:=HE1.out.cellE (i:=2) rfl
    have q2a:=(HE1.out.alloc (.cells #[.int .i64 (c:Int)] 3)).cellE (i:=2) rfl
    have HBL:Hid (litB (e.swap c 1 k).val.length l=true∧(e.swap c 1 k).val.length≤1048576):=Lib.hid ⟨HLB.out,by have:=HE1.out.B;omega⟩
    have H63:Hid ((e.wat l).length+1≤maxLen):=by refine Lib.hid ?_;have:=HXX.out.2;unfold LIM at this;unfold maxLen;omega
    have HBY:Hid (((e.wat l).length+1) * 8≤140737488355328):=by refine Lib.hid ?_;have:=HXX.out.2;unfold LIM at this;omega
    have HOC:Hid (∀u∈([.int .i64 (c:Int)]:List Value),u.oneCell'=true):=Lib.hid (by intro u hu;simp at hu;subst hu;rfl)
    clear hcs hg1 hlen1 hX hml hli
    go_upto_region 7 with fail
    go_region_held_law (fun w'=>w'.cell? ⟨g,2,none⟩=some (.map (some V.bm))∧w'.cell? ⟨gc,1,none⟩=some (.int .i64 l)) (first|exact ⟨q2,q1⟩|exact ⟨q2a,q1a⟩|exact ⟨c2,c1⟩|exact ⟨c2b,c1b⟩) ((refine jZ rfl (.tmp 53) (.tmp 55) 33 rfl 0 3 iI (.int .i64 0) 1 8 Try.underlying33 hiI hzI0 hzI1 hzI2 rfl (by decide) (.slice Al (e.wat l).length cl) (e.wat l).length (cn (e.wat l)) (by simp [Act.eval]) HOW.out ⟨W1.heap.size,0,none⟩ 1 1 [.int .i64 (c:Int)] (by simp [Act.eval]) rfl (wR W1 _ _) HOC.out H63.out HBY.out (zQ _) ?_;intro v' w2 hown hg hat;obtain ⟨A',c',hv', -, -, -⟩:=wB hown;subst hv';obtain ⟨κ2,hm2,hb2,hc2,hkey⟩:=HE1.out.watchA HXX.out.1 (wN HLB.out).1 (c:=c) (o := .cells #[.int .i64 (c:Int)] 3) hown (show (W1.alloc _).grownBy w2 _ from (by rw [HMR.out];exact ⟨hg.os,hg.tape,hg.output,hg.size,hg.block⟩)) (by rw [HMR.out];exact hat);obtain ⟨w3,hr3,hm3,hg3⟩:=hm2.store (v := .slice A' ((e.wat l).length+1) c') HBL.out.1 HBL.out.2;have HFIN:=Lib.hid (hkey w3 hm3 hg3);have c2:=hb2.cell 2;have c1:=HC1.out _ _ (hc2 c _ HU.out);have c2b:=HFIN.out.1.cellE (i:=2) rfl;have c1b:=HC1.out _ _ (HFIN.out.1.cl c _ HU.out);simp only [EV.cells,qT,xL,zA,zC,zB] at c2;clear hown hg hat hm2 hb2 hc2 hkey hm3 hg3))
    all_goals
     clear hl0 hl1 q2 q2a q1 q1a c1 c2 c1b c2b
     go_wp2_with fail
     go_ret
     unfold MoveRet
     rw [HO.out]
     refine ⟨rfl,κ2,{ V with mv:=updV V.mv l (.slice A' ((e.wat l).length+1) c') },?_,HF1.out.trans (HFIN.out.2.mono fun s hs=>movC_wat hs),if_neg (fun e1=>HXX.out.1 e1.symm)⟩
     unfold Eng.moved
     rw [HLE.out]
     exact HFIN.out.1
   ·have by_:decide (y≥0)=false:=by simpa using hy
    have HN:Hid (∀j,2≤j→j<k+1→tv e.val ((e.cl c).getD j 0)<0):=by
     refine Lib.hid fun j a b => ?_
     by_cases e1:j=k
     ·subst e1;rw [HLE.out,HTV.out];omega
     ·exact HNEG.out j a (by omega)
    clear hy
    go_wp2_with fail
    refine HT.out.mono ?_
    rintro en w1 ⟨rfl,n1,rfl⟩
    go_wp2_with fail
    go_roundw
    case rel=>exact ⟨k+1,n+n1,by omega,by omega,by go_num,HN.out,rfl⟩
    case measure=>simp [intOf];omega
  ·have HN:Hid (openAt e.val (e.cl c) 2=none):=Lib.hid (openAt_no (by omega) HNEG.out)
   go_wp2_with fail
   go_ret
   unfold MoveRet
   rw [HN.out]
   exact ⟨rfl,_,rfl⟩
end
end Go.Proofs.Yticieifacalocaa
