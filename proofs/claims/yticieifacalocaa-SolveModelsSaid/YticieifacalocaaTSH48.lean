/- SolDec -/
import Derived.Test.YticieifacalocaaTSH44
namespace Go.Proofs.Yticieifacalocaa
open Go.RowKit
def bestK (val acty:List Int) (k:Nat):Int:=(List.range k).foldl (fun b v=>if val.getD v 0=0∧(b<0∨acty.getD b.toNat 0<acty.getD v 0) then (v:Int) else b) (-1)
theorem iQ (val acty:List Int) (k:Nat):bestK val acty (k+1)=if val.getD k 0=0∧(bestK val acty k<0∨acty.getD (bestK val acty k).toNat 0<acty.getD k 0) then (k:Int) else bestK val acty k:=by
 unfold bestK;rw [List.range_succ,List.foldl_append];rfl
theorem pH (val acty:List Int):∀k,bestK val acty k = -1∨∃b:Nat,b<k∧bestK val acty k=b:=by
 intro k
 induction k with
 | zero=>left;rfl
 | succ k ih =>
  rw [iQ]
  split
  ·exact .inr ⟨k,by omega,rfl⟩
  ·rcases ih with h|⟨b,h1,h2⟩
   ·exact .inl h
   ·exact .inr ⟨b,by omega,h2⟩
theorem bestF_K (val acty:List Int):fZ val acty=bestK val acty val.length:=rfl
def mG:Col→Prop
 | .slv | .val | .rsn | .lvl | .tr | .st=>True
 | _=>False
theorem pJ {k:Nat} (h:k≤1024):IntKind.i64.wrap ((k:Int)+1)=(k:Int)+1∧IntKind.i64.wrap (-((k:Int)+1)) = -((k:Int)+1):=by
 constructor<;>(rw [qS];omega)
theorem lJ {c:Col} (h:cQ c):mG c:=by cases c<;>first|trivial|exact h
section
variable {κ κ':Kap} {w w':World} {g:Nat} {t:TypeId} {rest:List Value} {x:Int} {e:Eng} {s:Sol} {V:EV} {U:SV} {f:Form}
theorem EngM.pushSt (h:EngM κ w g t rest x e V) {m:Nat} {v':Value} (f0:Fr κ κ' w w' (fun c=>c = .st)) (ho:Hold κ' w' .st 3 1 v' (e.st.length+1) (cn e.st++[.int .i64 (m:Int)])) :
  EngM κ' (w'.setCell ⟨g,7,none⟩ v') g t rest x { e with st:=e.st++[m] } { V with vs:=v' }∧Fr κ κ' w (w'.setCell ⟨g,7,none⟩ v') (fun c=>c = .st∨c = .slv):=by
 have hb:=h.blk.fr f0 (by simp)
 have f2:Fr κ' κ' w' (w'.setCell ⟨g,7,none⟩ v') (fun c=>c = .slv):=Fr.set κ' w' hb.k rfl
 have f:Fr κ κ' w (w'.setCell ⟨g,7,none⟩ v') (fun c=>c = .st∨c = .slv):=(f0.mono fun s hs => .inl hs).trans (f2.mono fun s hs => .inr hs)
 refine ⟨⟨?_,h.cls.fr f (by simp),fun c u hu=>(h.cl c u hu).fr f (by simp),h.inp.fr f (by simp),h.val.fr f (by simp),h.rsn.fr f (by simp),h.lvl.fr f (by simp),h.rl,h.ll,h.tr.fr f (by simp),?_,h.wat.fr f (by simp),fun l hl h0=>(h.wt l hl h0).fr f (by simp),h.B,h.v3⟩,f⟩
 ·have:=hb.set_ 7 v'
  rw [wQ] at this
  exact this
 ·have:=ho.fr f2 (by simp)
  show Hold _ _ _ _ _ _ (e.st++[m]).length (cn (e.st++[m]))
  rw [nR,zJ]
  exact this
theorem SolM.actyAt (h:SolM κ w g s V U) {v:Nat} (hv:v<s.e.val.length):w.cell? ⟨U.gy,v,none⟩=some (.int .i64 (s.acty.getD v 0)):=by
 rw [h.acty.cell,zA];exact wU (getD_at (by rw [h.actyl];exact hv))
def nM (κ:Kap) (w:World) (g:Nat) (U:SV) (o:Option Sol) (en:Ending) (w':World):Prop :=
 match o with
 | none=>en = .returned (.bool false)∧∃n,w'=w.drewN n
 | some s2=>wP κ w g U mG (.bool true) s2 en w'
set_option maxRecDepth 100000 in
set_option maxHeartbeats 8000000 in
theorem mA (h:SolM κ w g s V U) (hd:DU κ w U.av f.atoms) {o:Option Sol} (hq:decideF f s=some o) :
  Calls Try.prog 59 #[.pointer (some ⟨g,0,none⟩)] w (nM κ w g U o):=by
 obtain ⟨iI,hiI,hzI0,hzI1,hzI2⟩:=qD wV
 have q3:=h.eng.cellE (i:=3) rfl
 have q19:=h.eng.cellR (i:=10) rfl
 simp only [Nat.reduceAdd] at q19
 have HVAL:Hid (∀v,v<s.e.val.length→w.cell? ⟨V.gv,v,none⟩=some (.int .i8 (s.e.val.getD v 0))):=Lib.hid fun v hv=>h.eng.valAt hv
 have HACT:Hid (∀v,v<s.e.val.length→w.cell? ⟨U.gy,v,none⟩=some (.int .i64 (s.acty.getD v 0))):=Lib.hid fun v hv=>h.actyAt hv
 have HV3:=Lib.hid h.eng.v3
 have HB:=Lib.hid h.eng.B
 have HS:=Lib.hid h
 have HD:=Lib.hid hd
 have HQ:=Lib.hid hq
 have yB:=h.eng.B
 generalize hN:s.e.val.length=N at *
 have HN:=Lib.hid hN
 clear h hd hq hN
 go_enter Try.func59,Try.ntmps59
 go_wp2_with fail
 go_loopw [3,13] (fun b i wr=>∃k n:Nat,k≤N∧i = .int .i64 k∧b = .int .i64 (bestK s.e.val s.acty k)∧wr=w.drewN n) (fun _ i _=>N-(intOf i).toNat)
 case atStart=>exact ⟨0,0,zQ _,rfl,rfl,rfl⟩
 case round =>
  obtain ⟨k,n,hk,rfl,rfl,rfl⟩:=hrel
  by_cases hlt:k<N
  ·have qv:=HVAL.out k hlt
   have qa:=HACT.out k hlt
   have HST:=Lib.hid (iQ s.e.val s.acty k)
   have hb:=pH s.e.val s.acty k
   generalize bestK s.e.val s.acty k=b at *
   have HV:=Lib.hid (HV3.out k)
   have hv3:=HV3.out k
   generalize s.e.val.getD k 0=y at *
   generalize s.acty.getD k 0=ak at *
   have y1:(k:Int)<(N:Int):=by omega
   by_cases hy:y=0
   ·subst hy
    rcases hb with rfl|⟨bn,hb1,rfl⟩
    ·have HR:Hid (bestK s.e.val s.acty (k+1)=(k:Int)):=by refine Lib.hid ?_;rw [HST.out,if_pos ⟨rfl, .inl (by omega)⟩]
     clear HST hv3
     go_upto_region 5 with fail
     go_quiet (fail)
     go_wp2_with fail
     go_roundw
     case rel=>exact ⟨k+1,n+nq,by omega,by go_num,by rw [HR.out],rfl⟩
     case measure=>simp [intOf];omega
    ·have qb:=HACT.out bn (by omega)
     rw [show (bn:Int).toNat=bn from Int.toNat_natCast bn] at HST
     generalize s.acty.getD bn 0=ab at *
     have yn:¬((bn:Int)<0):=by omega
     have yb:(bn:Int)<(N:Int):=by omega
     by_cases hcmp:ab<ak
     ·have HR:Hid (bestK s.e.val s.acty (k+1)=(k:Int)):=by refine Lib.hid ?_;rw [HST.out,if_pos ⟨rfl, .inr hcmp⟩]
      have yc:decide (ak > ab)=true:=by simpa using hcmp
      have p19:(w.drewN n).cell? ⟨g,19,none⟩=some (.slice (some ⟨U.gy,0,none⟩) N N):=by rw [←HN.out];rw [←HN.out] at q19;exact q19
      have pa:(w.drewN n).cell? ⟨U.gy,k,none⟩=some (.int .i64 ak):=qa
      have pb:(w.drewN n).cell? ⟨U.gy,bn,none⟩=some (.int .i64 ab):=qb
      clear HST hv3 hcmp
      go_upto_region 5 with fail
      clear q3 q19 qv qa qb
      have HW:Hid (∀m,(w.drewN n).drewN m=w.drewN (n+m)):=Lib.hid fun m=>by simp
      generalize w.drewN n=W at *
      go_region_held3 (fun w'=>w'.cell? ⟨g,19,none⟩=some (.slice (some ⟨U.gy,0,none⟩) N N)∧w'.cell? ⟨U.gy,k,none⟩=some (.int .i64 ak)∧w'.cell? ⟨U.gy,bn,none⟩=some (.int .i64 ab)) (first|exact ⟨p19,pa,pb⟩|exact p19|exact pa|exact pb) (fail)
      go_wp2_with fail
      go_roundw
      case rel=>exact ⟨k+1,n+1,by omega,by go_num,by rw [HR.out],HW.out 1⟩
      case measure=>simp [intOf];omega
     ·have HR:Hid (bestK s.e.val s.acty (k+1)=(bn:Int)):=by refine Lib.hid ?_;rw [HST.out,if_neg (by rintro ⟨-,h|h⟩;omega;exact hcmp h)]
      have yc:decide (ak > ab)=false:=by simpa using hcmp
      have p19:(w.drewN n).cell? ⟨g,19,none⟩=some (.slice (some ⟨U.gy,0,none⟩) N N):=by rw [←HN.out];rw [←HN.out] at q19;exact q19
      have pa:(w.drewN n).cell? ⟨U.gy,k,none⟩=some (.int .i64 ak):=qa
      have pb:(w.drewN n).cell? ⟨U.gy,bn,none⟩=some (.int .i64 ab):=qb
      clear HST hv3 hcmp
      go_upto_region 5 with fail
      clear q3 q19 qv qa qb
      have HW:Hid (∀m,(w.drewN n).drewN m=w.drewN (n+m)):=Lib.hid fun m=>by simp
      generalize w.drewN n=W at *
      go_region_held3 (fun w'=>w'.cell? ⟨g,19,none⟩=some (.slice (some ⟨U.gy,0,none⟩) N N)∧w'.cell? ⟨U.gy,k,none⟩=some (.int .i64 ak)∧w'.cell? ⟨U.gy,bn,none⟩=some (.int .i64 ab)) (first|exact ⟨p19,pa,pb⟩|exact p19|exact pa|exact pb) (fail)
      go_wp2_with fail
      go_roundw
      case rel=>exact ⟨k+1,n+1,by omega,by go_num,by rw [HR.out],HW.out 1⟩
      case measure=>simp [intOf];omega
   ·have HR:Hid (bestK s.e.val s.acty (k+1)=b):=by refine Lib.hid ?_;rw [HST.out,if_neg (by rintro ⟨h, -⟩;exact hy h)]
    clear HST hb HV
    rcases hv3 with rfl|rfl|rfl
    ·exact absurd rfl hy
    ·clear hy
     go_upto_region 5 with fail
     go_quiet (fail)
     go_wp2_with fail
     go_roundw
     case rel=>exact ⟨k+1,n+nq,by omega,by go_num,by rw [HR.out],rfl⟩
     case measure=>simp [intOf];omega
    ·clear hy
     go_upto_region 5 with fail
     go_quiet (fail)
     go_wp2_with fail
     go_roundw
     case rel=>exact ⟨k+1,n+nq,by omega,by go_num,by rw [HR.out],rfl⟩
     case measure=>simp [intOf];omega
  ·have hkN:k=N:=by omega
   subst hkN
   have hq:=HQ.out
   unfold decideF at hq
   rw [bestF_K,HN.out] at hq
   simp only at hq
   have hb:=pH s.e.val s.acty k
   have HS1:=Lib.hid (HS.out.drewN n)
   have HD1:=Lib.hid (HD.out.fr (Fr.drewN κ w n (fun _=>False)))
   have HF1:Hid (Fr κ κ w (w.drewN n) mG):=Lib.hid (Fr.drewN κ w n _)
   generalize bestK s.e.val s.acty k=b at *
   have y1:¬(k<k):=by omega
   rcases hb with rfl|⟨bn,hb1,rfl⟩
   ·rw [if_pos (by omega)] at hq
    injection hq with hq
    subst hq
    clear HS1 HD1 HF1
    go_wp2_with fail
    go_ret
    exact ⟨rfl,n,rfl⟩
   ·rw [if_neg (by omega)] at hq
    split at hq
    ·rename_i hlim
     obtain ⟨hlt1,hlt2, -⟩:=hlim
     have HLIM:=Lib.hid (And.intro hlt1 hlt2)
     have H63:Hid (s.e.st.length+1≤maxLen):=by refine Lib.hid ?_;clear hq HQ;unfold LIM at hlt2;unfold maxLen;omega
     have HBY:Hid ((s.e.st.length+1) * 8≤140737488355328):=by refine Lib.hid ?_;clear hq HQ;unfold LIM at hlt2;omega
     have yn:¬((bn:Int)<0):=by omega
     have yn2:(bn:Int)≤1024:=by omega
     have HBN:=Lib.hid hb1
     simp only [Int.toNat_natCast] at hq
     have HQ2:=Lib.hid hq
     obtain ⟨Aa,ca,hav,hca,hcm, -,hrd⟩:=HD1.out.diffs
     have q15:=HS1.out.eng.cellR (i:=6) rfl
     simp only [Nat.reduceAdd] at q15
     rw [hav] at q15
     have HRD:=Lib.hid hrd
     unfold maxLen at hcm
     clear hq HQ HVAL HACT HV3 HS HD q3 q19 hb1 hlt1 hlt2 hav hrd hlt
     have HLP:Hid (litB s.e.val.length ((bn:Int)+1)=true∧litB s.e.val.length (-((bn:Int)+1))=true):=by
      have h1:=HBN.out
      have h2:=HN.out
      exact Lib.hid ⟨decide_eq_true ⟨by omega,by unfold vr;omega⟩,decide_eq_true ⟨by omega,by unfold vr;omega⟩⟩
     have yw1:=(pJ (k:=bn) (by omega)).1
     have yw2:=(pJ (k:=bn) (by omega)).2
     go_upto_region 11 with fail
     generalize w.drewN n=W1 at *
     cases hat:f.atoms[bn]? with
     | none =>
      have hge:f.atoms.length≤bn:=xS.1 hat
      have ya:decide ((bn:Int)<(f.atoms.length:Int))=false:=by clear yw1 yw2;simp;omega
      have ya2:¬((bn:Int)<(f.atoms.length:Int)):=by clear yw1 yw2;omega
      have ya3:¬(bn<f.atoms.length):=by clear yw1 yw2;omega
      have hq:=HQ2.out
      rw [hat] at hq
      injection hq with hq
      subst hq
      clear hat hge HRD HQ2
      go_quiet (fail)
      clear q15 ya ya2 ya3
      have HS2:Hid (SolM κ (W1.drewN nq) g s V U):=Lib.hid (HS1.out.drewN nq)
      have HF2:Hid (Fr κ κ w (W1.drewN nq) mG):=Lib.hid (HF1.out.trans (Fr.drewN κ _ _ _))
      clear HS1 HD1 HF1
      generalize W1.drewN nq=W2 at *
      obtain ⟨At,ct,hvt,hct,hcmt⟩:=HS2.out.eng.tr.shape
      obtain ⟨As,cs,hvs,hcs,hcms⟩:=HS2.out.eng.st.shape
      have q6:=HS2.out.eng.cellE (i:=6) rfl
      have q7:=HS2.out.eng.cellE (i:=7) rfl
      have q6a:=(HS2.out.alloc (.cells #[.int .i64 (s.e.tr.length:Int)] 3)).eng.cellE (i:=6) rfl
      have q7a:=(HS2.out.alloc (.cells #[.int .i64 (s.e.tr.length:Int)] 3)).eng.cellE (i:=7) rfl
      rw [hvt] at q6 q6a
      rw [hvs] at q7 q7a
      have HVS:=Lib.hid hvs
      clear hvt hvs
      unfold maxLen at hcmt hcms
      have HOW:Hid ((W2.alloc (.cells #[.int .i64 (s.e.tr.length:Int)] 3)).drew.ownsRow 0 3 1 (.slice As s.e.st.length cs) s.e.st.length (cn s.e.st)):=by
       refine Lib.hid ?_
       have:=((HS2.out.alloc (.cells #[.int .i64 (s.e.tr.length:Int)] 3)).drewN 1).eng.st.o
       rw [HVS.out] at this;exact this
      have HOC:Hid (∀u∈([.int .i64 (s.e.tr.length:Int)]:List Value),u.oneCell'=true):=Lib.hid (by intro u hu;simp at hu;subst hu;rfl)
      have HKEY:Hid (∀v' w2,w2.ownsRow 0 3 1 v' (s.e.st.length+1) (cn s.e.st++[.int .i64 (s.e.tr.length:Int)])→(W2.alloc (.cells #[.int .i64 (s.e.tr.length:Int)] 3)).drew.grownBy w2 (Value.slice As s.e.st.length cs).ownBlock→(v'.ownBlock=(Value.slice As s.e.st.length cs).ownBlock∨v'.ownBlock=some (W2.alloc (.cells #[.int .i64 (s.e.tr.length:Int)] 3)).drew.heap.size) →
        w2.frozen? ⟨g,7,none⟩=false∧w2.cell? ⟨g,7,none⟩=some (.slice As s.e.st.length cs)∧∃κ4,SolM κ4 (w2.setCell ⟨g,7,none⟩ v') g { s with e:={ s.e with st:=s.e.st++[s.e.tr.length] } } { V with vs:=v' } U∧Fr κ κ4 w (w2.setCell ⟨g,7,none⟩ v') mG):=by
       refine Lib.hid fun v' w2 k1 k2 k3 => ?_
       have f6:=(Fr.alloc κ W2 (.cells #[.int .i64 (s.e.tr.length:Int)] 3) (fun c=>c = .st)).trans (Fr.drew κ _ _)
       have ho:=((HS2.out.alloc (.cells #[.int .i64 (s.e.tr.length:Int)] 3)).drewN 1).eng.st
       rw [HVS.out] at ho
       obtain ⟨κ4,j1,j2⟩:=ho.app (S:=fun c=>c = .st) k1 k2 k3 rfl
       have f7:=f6.trans j2
       obtain ⟨r1,r2⟩:=HS2.out.eng.pushSt f7 j1
       have hb:=HS2.out.eng.blk.fr f7 (by simp)
       refine ⟨hb.frozen 7,?_,κ4,HS2.out.withE r2 (fun c hc=>by rcases hc with rfl|rfl<;>trivial) r1 rfl,HF2.out.trans (r2.mono fun c hc=>by rcases hc with rfl|rfl<;>trivial)⟩
       rw [hb.cell 7]
       have:=HS2.out.eng.cellE (i:=7) rfl
       rw [HS2.out.eng.blk.cell] at this
       rw [←HVS.out]
       exact this
      clear hct hcs hcmt hcms
      go_upto_region 13 with fail
      go_region_law (refine jZ rfl (.tmp 77) (.tmp 84) 33 rfl 0 3 iI (.int .i64 0) 1 8 Try.underlying33 hiI hzI0 hzI1 hzI2 rfl (by decide) (.slice As s.e.st.length cs) s.e.st.length (cn s.e.st) (by simp [Act.eval]) HOW.out ⟨W2.heap.size,0,none⟩ 1 1 [.int .i64 (s.e.tr.length:Int)] (by simp [Act.eval]) rfl (wR W2 _ _) HOC.out H63.out HBY.out (zQ _) ?_;intro v' w2 hown hg hat;obtain ⟨A',c',hv', -, -, -⟩:=wB hown;subst hv';obtain ⟨z7,y7,κ4,hs4,hf4⟩:=HKEY.out _ w2 hown hg hat;have HS4:=Lib.hid (hs4.drewN 0);have HF4:=Lib.hid hf4;clear hown hg hat hs4 hf4)
      all_goals
       clear q6 q7 q6a q7a z7 y7 HOW HOC HKEY HVS
       generalize w2.setCell ⟨g,7,none⟩ (.slice A' (s.e.st.length+1) c')=W4 at *
       have HAS:=Lib.hid (gO (r := -1) HS4.out.eng (l:=(-((bn:Int)+1))) HLP.out.2 HLIM.out.1)
       go_wp2_with fail
       refine HAS.out.mono ?_
       rintro en W5 ⟨rfl,κ5,V5,hE5,hF5, -, -⟩
       have HFIN:Hid (nM κ w g U (some { s with e:=({ s.e with st:=s.e.st++[s.e.tr.length] }:Eng).assign (-((bn:Int)+1)) (-1) }) (.returned (.bool true)) W5) :=
        Lib.hid ⟨rfl,κ5,V5,U,HS4.out.withE hF5 (fun c hc=>gY hc) hE5 (by simp [Eng.assign]),HF4.out.trans (hF5.mono fun c hc=>lJ hc), .refl U⟩
       clear hE5 hF5 HAS HS4 HF4
       go_wp2_with fail
       go_ret
       exact HFIN.out
     | some d =>
      have hltA:=(zG.1 hat).1
      have ya:decide ((bn:Int)<(f.atoms.length:Int))=true:=by clear yw1 yw2;simp;omega
      have ya2:((bn:Int)<(f.atoms.length:Int)):=by clear yw1 yw2;omega
      obtain ⟨dx,dy,dc⟩:=d
      have hq:=HQ2.out
      rw [hat] at hq
      simp only at hq
      split at hq
      ·rename_i hc
       obtain ⟨c1,c2,c3,c4,c5,c6⟩:=hc
       obtain ⟨xn,rfl⟩:∃xn:Nat,dx=xn:=⟨dx.toNat,by clear yw1 yw2;omega⟩
       obtain ⟨yn',rfl⟩:∃yn':Nat,dy=yn':=⟨dy.toNat,by clear yw1 yw2;omega⟩
       obtain ⟨b,off,hA,hblt,e0,e1,e2⟩:=HRD.out.diff hat
       subst hA
       injection hq with hq
       have HAG:=Lib.hid (fun n=>sD (x:=xn) (y:=yn') (c:=dc) (HS1.out.drewN n) (by clear yw1 yw2;omega) (by clear yw1 yw2;omega) c5 c6)
       have hg15:=HS1.out.eng.blk.b.lt
       have HFK:Hid (∀W',Below W1.heap.size W1 W'→SolM κ W' g s V U∧Fr κ κ w W' mG):=Lib.hid fun W' hb=>⟨HS1.out.keep hb,HF1.out.trans (Fr.kept κ hb mG)⟩
       have HSOF:Hid (∀W',Below W1.heap.size W1 W'→W'.cell? ⟨g,15,none⟩=some (.slice (some ⟨b,off,none⟩) f.atoms.length ca)∧W'.cell? ⟨b,off+bn * 3,none⟩=some (.int .i64 xn)∧W'.cell? ⟨b,off+bn * 3+1,none⟩=some (.int .i64 yn')∧W'.cell? ⟨b,off+bn * 3+2,none⟩=some (.int .i64 dc)∧Below W1.heap.size W1 W') :=
        Lib.hid fun W' hb=>⟨(hb.cell (p:=⟨g,15,none⟩) hg15).trans q15,(hb.cell (p:=⟨b,off+bn * 3,none⟩) hblt).trans e0,(hb.cell (p:=⟨b,off+bn * 3+1,none⟩) hblt).trans e1,(hb.cell (p:=⟨b,off+bn * 3+2,none⟩) hblt).trans e2,hb⟩
       generalize hag:decide (gi s.num (xn:Int)-gi s.num (yn':Int)≤dc)=ag at *
       have HQ3:Hid (o=some { s with e:=({ s.e with st:=s.e.st++[s.e.tr.length] }:Eng).assign (if ag=true then (bn:Int)+1 else -((bn:Int)+1)) (-1) }):=by
        refine Lib.hid ?_
        rw [←hq,←hag]
        simp only [qI]
       clear hq HQ2 hag hat c1 c2 c3 c4 c5 c6 hblt HRD
       go_region_held3 (fun W'=>W'.cell? ⟨g,15,none⟩=some (.slice (some ⟨b,off,none⟩) f.atoms.length ca)∧W'.cell? ⟨b,off+bn * 3,none⟩=some (.int .i64 xn)∧W'.cell? ⟨b,off+bn * 3+1,none⟩=some (.int .i64 yn')∧W'.cell? ⟨b,off+bn * 3+2,none⟩=some (.int .i64 dc)∧Below W1.heap.size W1 W') (first|assumption|exact HSOF.out _ (zR _ _).drew)
        ((go_at_call 81;refine (HAG.out 1).mono ?_;rintro en W2 ⟨rfl,hb2⟩;have hs2:=HSOF.out W2 (jS (zR _ _).drew hb2)))
       have HS2:=Lib.hid (HFK.out W2 hs2.2.2.2.2).1
       have HF2:=Lib.hid (HFK.out W2 hs2.2.2.2.2).2
       clear hb2 hs2 HSOF HFK HAG HS1 HD1 HF1 e0 e1 e2 q15 hg15 ya ya2 hltA
       cases ag with
       | true =>
        obtain rfl:=HQ3.out
        clear HQ3
        rw [if_pos rfl]
        obtain ⟨At,ct,hvt,hct,hcmt⟩:=HS2.out.eng.tr.shape
        obtain ⟨As,cs,hvs,hcs,hcms⟩:=HS2.out.eng.st.shape
        have q6:=HS2.out.eng.cellE (i:=6) rfl
        have q7:=HS2.out.eng.cellE (i:=7) rfl
        have q6a:=(HS2.out.alloc (.cells #[.int .i64 (s.e.tr.length:Int)] 3)).eng.cellE (i:=6) rfl
        have q7a:=(HS2.out.alloc (.cells #[.int .i64 (s.e.tr.length:Int)] 3)).eng.cellE (i:=7) rfl
        rw [hvt] at q6 q6a
        rw [hvs] at q7 q7a
        have HVS:=Lib.hid hvs
        clear hvt hvs
        unfold maxLen at hcmt hcms
        have HOW:Hid ((W2.alloc (.cells #[.int .i64 (s.e.tr.length:Int)] 3)).drew.ownsRow 0 3 1 (.slice As s.e.st.length cs) s.e.st.length (cn s.e.st)):=by
         refine Lib.hid ?_
         have:=((HS2.out.alloc (.cells #[.int .i64 (s.e.tr.length:Int)] 3)).drewN 1).eng.st.o
         rw [HVS.out] at this;exact this
        have HOC:Hid (∀u∈([.int .i64 (s.e.tr.length:Int)]:List Value),u.oneCell'=true):=Lib.hid (by intro u hu;simp at hu;subst hu;rfl)
        have HKEY:Hid (∀v' w2,w2.ownsRow 0 3 1 v' (s.e.st.length+1) (cn s.e.st++[.int .i64 (s.e.tr.length:Int)])→(W2.alloc (.cells #[.int .i64 (s.e.tr.length:Int)] 3)).drew.grownBy w2 (Value.slice As s.e.st.length cs).ownBlock→(v'.ownBlock=(Value.slice As s.e.st.length cs).ownBlock∨v'.ownBlock=some (W2.alloc (.cells #[.int .i64 (s.e.tr.length:Int)] 3)).drew.heap.size) →
          w2.frozen? ⟨g,7,none⟩=false∧w2.cell? ⟨g,7,none⟩=some (.slice As s.e.st.length cs)∧∃κ4,SolM κ4 (w2.setCell ⟨g,7,none⟩ v') g { s with e:={ s.e with st:=s.e.st++[s.e.tr.length] } } { V with vs:=v' } U∧Fr κ κ4 w (w2.setCell ⟨g,7,none⟩ v') mG):=by
         refine Lib.hid fun v' w2 k1 k2 k3 => ?_
         have f6:=(Fr.alloc κ W2 (.cells #[.int .i64 (s.e.tr.length:Int)] 3) (fun c=>c = .st)).trans (Fr.drew κ _ _)
         have ho:=((HS2.out.alloc (.cells #[.int .i64 (s.e.tr.length:Int)] 3)).drewN 1).eng.st
         rw [HVS.out] at ho
         obtain ⟨κ4,j1,j2⟩:=ho.app (S:=fun c=>c = .st) k1 k2 k3 rfl
         have f7:=f6.trans j2
         obtain ⟨r1,r2⟩:=HS2.out.eng.pushSt f7 j1
         have hb:=HS2.out.eng.blk.fr f7 (by simp)
         refine ⟨hb.frozen 7,?_,κ4,HS2.out.withE r2 (fun c hc=>by rcases hc with rfl|rfl<;>trivial) r1 rfl,HF2.out.trans (r2.mono fun c hc=>by rcases hc with rfl|rfl<;>trivial)⟩
         rw [hb.cell 7]
         have:=HS2.out.eng.cellE (i:=7) rfl
         rw [HS2.out.eng.blk.cell] at this
         rw [←HVS.out]
         exact this
        clear hct hcs hcmt hcms
        go_upto_region 13 with fail
        go_region_law (refine jZ rfl (.tmp 77) (.tmp 84) 33 rfl 0 3 iI (.int .i64 0) 1 8 Try.underlying33 hiI hzI0 hzI1 hzI2 rfl (by decide) (.slice As s.e.st.length cs) s.e.st.length (cn s.e.st) (by simp [Act.eval]) HOW.out ⟨W2.heap.size,0,none⟩ 1 1 [.int .i64 (s.e.tr.length:Int)] (by simp [Act.eval]) rfl (wR W2 _ _) HOC.out H63.out HBY.out (zQ _) ?_;intro v' w2 hown hg hat;obtain ⟨A',c',hv', -, -, -⟩:=wB hown;subst hv';obtain ⟨z7,y7,κ4,hs4,hf4⟩:=HKEY.out _ w2 hown hg hat;have HS4:=Lib.hid (hs4.drewN 0);have HF4:=Lib.hid hf4;clear hown hg hat hs4 hf4)
        all_goals
         clear q6 q7 q6a q7a z7 y7 HOW HOC HKEY HVS
         generalize w2.setCell ⟨g,7,none⟩ (.slice A' (s.e.st.length+1) c')=W4 at *
         have HAS:=Lib.hid (gO (r := -1) HS4.out.eng (l:=((bn:Int)+1)) HLP.out.1 HLIM.out.1)
         go_wp2_with fail
         refine HAS.out.mono ?_
         rintro en W5 ⟨rfl,κ5,V5,hE5,hF5, -, -⟩
         have HFIN:Hid (nM κ w g U (some { s with e:=({ s.e with st:=s.e.st++[s.e.tr.length] }:Eng).assign ((bn:Int)+1) (-1) }) (.returned (.bool true)) W5) :=
          Lib.hid ⟨rfl,κ5,V5,U,HS4.out.withE hF5 (fun c hc=>gY hc) hE5 (by simp [Eng.assign]),HF4.out.trans (hF5.mono fun c hc=>lJ hc), .refl U⟩
         clear hE5 hF5 HAS HS4 HF4 yw1 yw2 hcm
         go_wp2_with fail
         go_ret
         exact HFIN.out
       | false =>
        obtain rfl:=HQ3.out
        clear HQ3
        rw [if_neg (by simp)]
        obtain ⟨At,ct,hvt,hct,hcmt⟩:=HS2.out.eng.tr.shape
        obtain ⟨As,cs,hvs,hcs,hcms⟩:=HS2.out.eng.st.shape
        have q6:=HS2.out.eng.cellE (i:=6) rfl
        have q7:=HS2.out.eng.cellE (i:=7) rfl
        have q6a:=(HS2.out.alloc (.cells #[.int .i64 (s.e.tr.length:Int)] 3)).eng.cellE (i:=6) rfl
        have q7a:=(HS2.out.alloc (.cells #[.int .i64 (s.e.tr.length:Int)] 3)).eng.cellE (i:=7) rfl
        rw [hvt] at q6 q6a
        rw [hvs] at q7 q7a
        have HVS:=Lib.hid hvs
        clear hvt hvs
        unfold maxLen at hcmt hcms
        have HOW:Hid ((W2.alloc (.cells #[.int .i64 (s.e.tr.length:Int)] 3)).drew.ownsRow 0 3 1 (.slice As s.e.st.length cs) s.e.st.length (cn s.e.st)):=by
         refine Lib.hid ?_
         have:=((HS2.out.alloc (.cells #[.int .i64 (s.e.tr.length:Int)] 3)).drewN 1).eng.st.o
         rw [HVS.out] at this;exact this
        have HOC:Hid (∀u∈([.int .i64 (s.e.tr.length:Int)]:List Value),u.oneCell'=true):=Lib.hid (by intro u hu;simp at hu;subst hu;rfl)
        have HKEY:Hid (∀v' w2,w2.ownsRow 0 3 1 v' (s.e.st.length+1) (cn s.e.st++[.int .i64 (s.e.tr.length:Int)])→(W2.alloc (.cells #[.int .i64 (s.e.tr.length:Int)] 3)).drew.grownBy w2 (Value.slice As s.e.st.length cs).ownBlock→(v'.ownBlock=(Value.slice As s.e.st.length cs).ownBlock∨v'.ownBlock=some (W2.alloc (.cells #[.int .i64 (s.e.tr.length:Int)] 3)).drew.heap.size) →
          w2.frozen? ⟨g,7,none⟩=false∧w2.cell? ⟨g,7,none⟩=some (.slice As s.e.st.length cs)∧∃κ4,SolM κ4 (w2.setCell ⟨g,7,none⟩ v') g { s with e:={ s.e with st:=s.e.st++[s.e.tr.length] } } { V with vs:=v' } U∧Fr κ κ4 w (w2.setCell ⟨g,7,none⟩ v') mG):=by
         refine Lib.hid fun v' w2 k1 k2 k3 => ?_
         have f6:=(Fr.alloc κ W2 (.cells #[.int .i64 (s.e.tr.length:Int)] 3) (fun c=>c = .st)).trans (Fr.drew κ _ _)
         have ho:=((HS2.out.alloc (.cells #[.int .i64 (s.e.tr.length:Int)] 3)).drewN 1).eng.st
         rw [HVS.out] at ho
         obtain ⟨κ4,j1,j2⟩:=ho.app (S:=fun c=>c = .st) k1 k2 k3 rfl
         have f7:=f6.trans j2
         obtain ⟨r1,r2⟩:=HS2.out.eng.pushSt f7 j1
         have hb:=HS2.out.eng.blk.fr f7 (by simp)
         refine ⟨hb.frozen 7,?_,κ4,HS2.out.withE r2 (fun c hc=>by rcases hc with rfl|rfl<;>trivial) r1 rfl,HF2.out.trans (r2.mono fun c hc=>by rcases hc with rfl|rfl<;>trivial)⟩
         rw [hb.cell 7]
         have:=HS2.out.eng.cellE (i:=7) rfl
         rw [HS2.out.eng.blk.cell] at this
         rw [←HVS.out]
         exact this
        clear hct hcs hcmt hcms
        go_upto_region 13 with fail
        go_region_law (refine jZ rfl (.tmp 77) (.tmp 84) 33 rfl 0 3 iI (.int .i64 0) 1 8 Try.underlying33 hiI hzI0 hzI1 hzI2 rfl (by decide) (.slice As s.e.st.length cs) s.e.st.length (cn s.e.st) (by simp [Act.eval]) HOW.out ⟨W2.heap.size,0,none⟩ 1 1 [.int .i64 (s.e.tr.length:Int)] (by simp [Act.eval]) rfl (wR W2 _ _) HOC.out H63.out HBY.out (zQ _) ?_;intro v' w2 hown hg hat;obtain ⟨A',c',hv', -, -, -⟩:=wB hown;subst hv';obtain ⟨z7,y7,κ4,hs4,hf4⟩:=HKEY.out _ w2 hown hg hat;have HS4:=Lib.hid (hs4.drewN 0);have HF4:=Lib.hid hf4;clear hown hg hat hs4 hf4)
        all_goals
         clear q6 q7 q6a q7a z7 y7 HOW HOC HKEY HVS
         generalize w2.setCell ⟨g,7,none⟩ (.slice A' (s.e.st.length+1) c')=W4 at *
         have HAS:=Lib.hid (gO (r := -1) HS4.out.eng (l:=(-((bn:Int)+1))) HLP.out.2 HLIM.out.1)
         go_wp2_with fail
         refine HAS.out.mono ?_
         rintro en W5 ⟨rfl,κ5,V5,hE5,hF5, -, -⟩
         have HFIN:Hid (nM κ w g U (some { s with e:=({ s.e with st:=s.e.st++[s.e.tr.length] }:Eng).assign (-((bn:Int)+1)) (-1) }) (.returned (.bool true)) W5) :=
          Lib.hid ⟨rfl,κ5,V5,U,HS4.out.withE hF5 (fun c hc=>gY hc) hE5 (by simp [Eng.assign]),HF4.out.trans (hF5.mono fun c hc=>lJ hc), .refl U⟩
         clear hE5 hF5 HAS HS4 HF4 yw1 yw2 hcm
         go_wp2_with fail
         go_ret
         exact HFIN.out
      ·cases hq
    ·cases hq
end
end Go.Proofs.Yticieifacalocaa
