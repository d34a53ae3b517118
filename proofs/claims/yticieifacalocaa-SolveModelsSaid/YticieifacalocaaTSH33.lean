/- SolIns -/
import Derived.Test.YticieifacalocaaTSH32
import Derived.Deep.RegionHeldLaw
namespace Go.Proofs.Yticieifacalocaa
open Go.RowKit
def eV:Col→Prop
 | .slv | .num | .arcs | .ar _ | .act=>True
 | _=>False
theorem pU {c:Col} (h:lowC c):eV c:=by cases c<;>first|trivial|exact h
def putF (s:Sol) (num:List Int) (al:Int) (x y:Nat) (ac:Int):Sol :=
 { s with num:=num,arcs:=s.arcs.set y (s.arcs.getD y []++[⟨al,x,y,ac⟩]),act:=s.act.set (vr al) true }
def eC (κ:Kap) (w:World) (g:Nat) (s:Sol) (V:EV) (U:SV) (al:Int) (x y:Nat) (ac:Int) (res:List Int ⊕ List Int) (en:Ending) (w':World):Prop :=
 match res with
 | .inl num=>en = .returned (.slice none 0 0)∧∃κ' U',SolM κ' w' g (putF s num al x y ac) V U'∧Fr κ κ' w w' eV∧U.same U'
 | .inr l=>∃g2 c U',en = .returned (.slice (some ⟨g2,0,none⟩) l.length c)∧0<l.length∧U.same U'∧∀col,∃κ',SolM κ' w' g s V U'∧Hold κ' w' col 3 1 (.slice (some ⟨g2,0,none⟩) l.length c) l.length (ci l)∧Fr κ κ' w w' eV
section
variable {κ κ1:Kap} {w w1:World} {g:Nat} {s:Sol} {V:EV} {U:SV}
def Rd5 (w':World) (g gb ga N:Nat) (al:Int) (x y:Nat) (ac:Int):Prop :=
 w'.cell? ⟨g,11,none⟩=some (.slice (some ⟨ga,0,none⟩) N N)∧w'.cell? ⟨gb,0,none⟩=some (.int .i64 al)∧w'.cell? ⟨gb,1,none⟩=some (.int .i64 (x:Int))∧w'.cell? ⟨gb,2,none⟩=some (.int .i64 (y:Int))∧w'.cell? ⟨gb,3,none⟩=some (.int .i64 ac)
theorem fK {al:Int} {x y:Nat} {ac:Int} {gb:Nat} (h:SolM κ1 w1 g s V U) (hb:HB κ1 w1 (.tmp 0) gb 126 #[.int .i64 al, .int .i64 (x:Int), .int .i64 (y:Int), .int .i64 ac]) {N:Nat} (hn:s.num.length=N):Rd5 w1 g gb U.ga N al x y ac:=by
 have q:=h.eng.cellR (i:=2) rfl
 rw [hn] at q
 exact ⟨q,hb.cell 0,hb.cell 1,hb.cell 2,hb.cell 3⟩
set_option maxRecDepth 100000 in
set_option maxHeartbeats 16000000 in
theorem sO (h:SolM κ w g s V U) {al ac:Int} {x y:Nat} (hx:x<s.num.length) (hy:y<s.num.length) (hc1 : -2097152≤ac) (hc2:ac≤2097152) (hrx:iK (gi s.num x)=true) (hry:iK (gi s.num y)=true) (hN:s.num.length≤1000000)
  (hl:litB s.e.val.length al=true) (hlim:(s.arcs.getD y []).length<LIM) {fuel:Nat} {res:List Int ⊕ List Int} (hq:(if ac<gi s.num x-gi s.num y then lowerF fuel s.arcs s.num ⟨al,x,y,ac⟩ else some (.inl s.num))=some res) :
  Calls Try.prog 76 #[.pointer (some ⟨g,10,none⟩), .agg #[.int .i64 al, .int .i64 x, .int .i64 y, .int .i64 ac]] w (eC κ w g s V U al x y ac res):=by
 obtain ⟨iA,hiA,hzA0,hzA1,hzA2⟩:=qD pX
 obtain ⟨l0,l1⟩:=wN hl
 have hi:=wZ (by have:=h.eng.B;omega) hl
 have HV:Hid (∀W,Calls Try.prog 64 #[.int .i64 al] W fun e w'=>e = .returned (.int .i64 (vr al:Nat))∧W=w'):=fun W=>gI al l0 hi.1 hi.2 W
 have f1:=Fr.make κ w (.cells #[.int .i64 al, .int .i64 x, .int .i64 y, .int .i64 ac] 126) (.tmp 0) (fun _=>False)
 have HS1:=Lib.hid (h.fr f1 fun _ _=>id)
 have HF1:=Lib.hid (f1.mono (T:=eV) fun _=>False.elim)
 have HA1:=Lib.hid (HB.new κ w (.tmp 0) #[.int .i64 al, .int .i64 x, .int .i64 y, .int .i64 ac] 126)
 have HCH:=Lib.hid (show s.num.length=s.num.length from rfl)
 obtain ⟨gn,cn,hvn, -, -,hcn,hcm, -, -⟩:=h.num.open_ (by omega)
 have HVN:=Lib.hid hvn
 have HIB:=Lib.hid (And.intro hi (And.intro l0 l1))
 have HLIM:Hid ((s.arcs.getD y []).length+1≤maxLen∧((s.arcs.getD y []).length+1) * 32≤140737488355328):=by refine Lib.hid ?_;unfold LIM at hlim;unfold maxLen;omega
 obtain ⟨r1,r2⟩:=aF hrx
 obtain ⟨r3,r4⟩:=aF hry
 unfold maxLen at hcm
 have HXY:=Lib.hid (And.intro hx hy)
 have HQ:=Lib.hid hq
 have a1:=HA1.out.cell 1
 have a2:=HA1.out.cell 2
 have a3:=HA1.out.cell 3
 simp only [zA,zB,zC] at a1 a2 a3
 have q10:=HS1.out.eng.cellR (i:=1) rfl
 simp only [Nat.reduceAdd] at q10
 rw [HVN.out] at q10
 obtain ⟨gn2,cn2,e1, -, -, -, -,hcc, -⟩:=HS1.out.num.open_ (by omega)
 rw [HVN.out] at e1
 injection e1 with e1 _ _
 injection e1 with e1
 injection e1 with e1 _ _
 subst e1
 have nx:=hcc x _ (wU (eG hx))
 have ny:=hcc y _ (wU (eG hy))
 have HCN:=Lib.hid (And.intro hc1 hc2)
 have HNN:=Lib.hid hN
 have HRY:=Lib.hid hry
 generalize hvx:gi s.num (x:Int)=vx at *
 generalize hvy:gi s.num (y:Int)=vy at *
 have HVY:=Lib.hid hvy
 have y1:(x:Int)<(s.num.length:Int):=by omega
 have y2:(y:Int)<(s.num.length:Int):=by omega
 have yw:IntKind.i64.wrap (vx-vy)=vx-vy:=by rw [qS];omega
 clear h f1 hvn hl hlim hq hrx hry hcc hvx hvy hN l0 l1 hi
 have hnn1:∀W,(Go.binOp .neq 33 (.slice none 0 0) (.slice none 0 0)).run Try.prog W = .ok (.bool false) W:=fun W=>by kernel_rfl
 have hnn2:∀W g2 n c,(Go.binOp .neq 33 (.slice (some ⟨g2,0,none⟩) n c) (.slice none 0 0)).run Try.prog W = .ok (.bool true) W:=fun W g2 n c=>by kernel_rfl
 go_enter Try.func76,Try.ntmps76
 go_upto_region 1 with fail
 generalize w.alloc (.cells #[.int .i64 al, .int .i64 x, .int .i64 y, .int .i64 ac] 126)=W0 at *
 generalize kset κ w.heap.size (.tmp 0)=κ0 at *
 have p10:W0.drew.cell? ⟨g,10,none⟩=some (.slice (some ⟨gn,0,none⟩) s.num.length cn):=q10
 go_region_held3 (fun W'=>W'.cell? ⟨g,10,none⟩=some (.slice (some ⟨gn,0,none⟩) s.num.length cn)∧W'.cell? ⟨gn,x,none⟩=some (.int .i64 vx)∧W'.cell? ⟨gn,y,none⟩=some (.int .i64 vy)∧W'.cell? ⟨w.heap.size,1,none⟩=some (.int .i64 (x:Int))∧W'.cell? ⟨w.heap.size,2,none⟩=some (.int .i64 (y:Int))∧W'.cell? ⟨w.heap.size,3,none⟩=some (.int .i64 ac)) (first|exact ⟨q10,nx,ny,a1,a2,a3⟩|exact q10|exact nx|exact ny|exact a1|exact a2|exact a3) (fail)
 have HS2:Hid (SolM κ0 W0.drew g s V U):=Lib.hid (HS1.out.drewN 1)
 have HF2:Hid (Fr κ κ0 w W0.drew eV):=Lib.hid (HF1.out.trans (Fr.drew _ _ _))
 have HA2:=Lib.hid (HA1.out.fr (Fr.drew κ0 W0 (fun _=>False)) id)
 clear p10 q10 nx ny a1 a2 a3 HS1 HF1 HA1 yw
 generalize W0.drew=W1 at *
 by_cases hcmp:ac<vx-vy
 ·have hq:=HQ.out
  rw [if_pos hcmp] at hq
  have yc2:decide (vx-vy > ac)=true:=by simpa using hcmp
  have yc3:vx-vy > ac:=hcmp
  have HLW:=Lib.hid (lower_any HS2.out HXY.out.1 HXY.out.2 HCN.out.1 HCN.out.2 (by rw [HVY.out];exact HRY.out) HNN.out hq)
  have a0:=HA2.out.cell 0
  have a1:=HA2.out.cell 1
  have a2:=HA2.out.cell 2
  have a3:=HA2.out.cell 3
  simp only [zA,zB,zC] at a0 a1 a2 a3
  clear hq hcmp
  go_wp2_with fail
  refine HLW.out.mono ?_
  intro en W2 hlr
  cases res with
  | inl num =>
   obtain ⟨rfl,κ1,hs,hf⟩:=hlr
   have HS:=Lib.hid hs
   have HF:=Lib.hid (HF2.out.trans (hf.mono fun c hc=>pU hc))
   have HA:=Lib.hid (HA2.out.fr hf id)
   have HNL:Hid (num.length=s.num.length):=Lib.hid (by have h1:s.arcs.length=num.length:=hs.aln;have h2:=HS2.out.aln;omega)
   clear hs hf HS2 HF2 HA2 HLW a0 a1 a2 a3
   have hn1:=HNL.out
   obtain ⟨Wd,hWd⟩:∃Wd,Wd=W2.drew:=⟨_,rfl⟩
   have HSd:Hid (SolM κ1 Wd g { s with num:=num } V U):=by refine Lib.hid ?_;rw [hWd];exact HS.out.drewN 1
   have HFd:Hid (Fr κ κ1 w Wd eV):=by refine Lib.hid ?_;rw [hWd];exact HF.out.trans (Fr.drew _ _ _)
   have HAd:Hid (HB κ1 Wd (.tmp 0) w.heap.size 126 #[.int .i64 al, .int .i64 (x:Int), .int .i64 (y:Int), .int .i64 ac]):=by refine Lib.hid ?_;rw [hWd];exact HA.out.fr (Fr.drew κ1 W2 (fun _=>False)) id
   clear HS HF HA
   obtain ⟨nr,hnr⟩:∃nr,nr=(s.arcs.getD y []).length:=⟨_,rfl⟩
   have HLM:Hid (nr+1≤maxLen∧(nr+1) * 32≤140737488355328):=by refine Lib.hid ?_;rw [hnr];exact HLIM.out
   obtain ⟨u,hu⟩:∃u,U.sa[y]? = some u:=⟨_,List.getElem?_eq_getElem (by have h5:U.sa.length=(num).length:=HSd.out.al;have:=HXY.out.2;omega)⟩
   have har:Hold κ1 Wd (.ar y) 126 4 u nr (acs (s.arcs.getD y [])):=by rw [hnr];exact HSd.out.ar y u hu
   obtain ⟨Aa,ca,hua,hca,hcam⟩:=har.shape
   subst hua
   have qa:=HSd.out.arcs.cell y
   rw [zA,hu] at qa
   have HUU:=Lib.hid hu
   have qaa:=(HSd.out.alloc (.cells #[.int .i64 al, .int .i64 (x:Int), .int .i64 (y:Int), .int .i64 ac] 126)).arcs.cell y
   rw [zA,hu] at qaa
   have s1:=fK HSd.out HAd.out hn1
   have s2:=fK (HSd.out.alloc (.cells #[.int .i64 al, .int .i64 (x:Int), .int .i64 (y:Int), .int .i64 ac] 126)) (HAd.out.fr (Fr.alloc κ1 Wd (.cells #[.int .i64 al, .int .i64 (x:Int), .int .i64 (y:Int), .int .i64 ac] 126) (fun _=>False)) id) hn1
   unfold Rd5 at s1 s2
   have s0:=s1
   rw [hWd] at s0
   have HOW:Hid ((Wd.alloc (.cells #[.int .i64 al, .int .i64 (x:Int), .int .i64 (y:Int), .int .i64 ac] 126)).ownsRow 0 126 4 (.slice Aa nr ca) nr (acs (s.arcs.getD y []))):=Lib.hid (by rw [hnr];rw [hnr] at hu;exact ((HSd.out.alloc (.cells #[.int .i64 al, .int .i64 (x:Int), .int .i64 (y:Int), .int .i64 ac] 126)).ar y _ hu).o)
   have HOC:Hid (∀u∈([.int .i64 al, .int .i64 (x:Int), .int .i64 (y:Int), .int .i64 ac]:List Value),u.oneCell'=true):=Lib.hid (by intro u hu;simp at hu;rcases hu with rfl|rfl|rfl|rfl<;>rfl)
   have HCA:=Lib.hid (wY Wd 126 [.int .i64 al, .int .i64 (x:Int), .int .i64 (y:Int), .int .i64 ac] rfl)
   have HKEY:Hid (∀v' w2,w2.ownsRow 0 126 4 v' (nr+1) (acs (s.arcs.getD y [])++[.int .i64 al, .int .i64 (x:Int), .int .i64 (y:Int), .int .i64 ac])→(Wd.alloc (.cells #[.int .i64 al, .int .i64 (x:Int), .int .i64 (y:Int), .int .i64 ac] 126)).grownBy w2 (Value.slice Aa nr ca).ownBlock→(v'.ownBlock=(Value.slice Aa nr ca).ownBlock∨v'.ownBlock=some (Wd.alloc (.cells #[.int .i64 al, .int .i64 (x:Int), .int .i64 (y:Int), .int .i64 ac] 126)).heap.size) →
     w2.frozen? ⟨U.ga,y,none⟩=false∧w2.cell? ⟨U.ga,y,none⟩=some (.slice Aa nr ca)∧Rd5 w2 g w.heap.size U.ga s.num.length al x y ac∧Rd5 (w2.setCell ⟨U.ga,y,none⟩ v') g w.heap.size U.ga s.num.length al x y ac ∧
     ∃κ4,SolM κ4 (w2.setCell ⟨U.ga,y,none⟩ v') g { s with num:=num,arcs:=s.arcs.set y (s.arcs.getD y []++[⟨al,x,y,ac⟩]) } V { U with sa:=U.sa.set y v' }∧Fr κ κ4 w (w2.setCell ⟨U.ga,y,none⟩ v') eV∧HB κ4 (w2.setCell ⟨U.ga,y,none⟩ v') (.tmp 0) w.heap.size 126 #[.int .i64 al, .int .i64 (x:Int), .int .i64 (y:Int), .int .i64 ac]):=by
    refine Lib.hid fun v' w2 k1 k2 k3 => ?_
    have f6:=Fr.alloc κ1 Wd (.cells #[.int .i64 al, .int .i64 (x:Int), .int .i64 (y:Int), .int .i64 ac] 126) (fun c=>c = .ar y)
    have ho:Hold κ1 (Wd.alloc (.cells #[.int .i64 al, .int .i64 (x:Int), .int .i64 (y:Int), .int .i64 ac] 126)) (.ar y) 126 4 (.slice Aa nr ca) nr (acs (s.arcs.getD y [])):=har.fr (Fr.alloc κ1 Wd (.cells #[.int .i64 al, .int .i64 (x:Int), .int .i64 (y:Int), .int .i64 ac] 126) (fun _=>False)) id
    obtain ⟨κ4,j1,j2⟩:=ho.app (S:=fun c=>c = .ar y) k1 k2 k3 rfl
    have f7:=f6.trans j2
    obtain ⟨r1,r2⟩:=HSd.out.putAr (l:=s.arcs.getD y []++[⟨al,x,y,ac⟩]) f7 (by show y<(num).length;rw [HNL.out];exact HXY.out.2) (by rw [oC,zJ,←hnr];exact j1) (fun a ha=>by
     rcases zK.1 ha with ha|ha
     ·exact HSd.out.arl y a ha
     ·rw [zH] at ha;subst ha;exact HIB.out.1)
    have hab:=HAd.out.fr f7 (by simp)
    have hab2:=HAd.out.fr r2 (by simp)
    have harc:=HSd.out.arcs.fr f7 (by simp)
    have heng:=HSd.out.eng.blk.fr f7 (by simp)
    refine ⟨harc.frozen y,?_,⟨?_,hab.cell 0,hab.cell 1,hab.cell 2,hab.cell 3⟩,fK r1 hab2 HNL.out,κ4,r1,HFd.out.trans (r2.mono fun c hc=>by rcases hc with rfl|rfl<;>trivial),hab2⟩
    ·rw [harc.cell y,zA];exact hu
    ·have q:=HSd.out.eng.cellR (i:=2) (u := .slice (some ⟨U.ga,0,none⟩) s.num.length s.num.length) (by rw [←HNL.out];rfl)
     rw [HSd.out.eng.blk.cell] at q
     rw [heng.cell]
     exact q
   have yy:(y:Int)<(s.num.length:Int):=by have:=HXY.out.2;omega
   clear har hu hn1 hnr
   go_upto_region 5 with fail
   refine yF (S:=fun w'=>w'.cell? ⟨g,11,none⟩=some (.slice (some ⟨U.ga,0,none⟩) s.num.length s.num.length)∧w'.cell? ⟨w.heap.size,0,none⟩=some (.int .i64 al)∧w'.cell? ⟨w.heap.size,1,none⟩=some (.int .i64 (x:Int))∧w'.cell? ⟨w.heap.size,2,none⟩=some (.int .i64 (y:Int))∧w'.cell? ⟨w.heap.size,3,none⟩=some (.int .i64 ac)) (by kernel_rfl) (by (try dsimp only);first|with_reducible exact s0|with_reducible exact s1|with_reducible exact s2|with_reducible exact s8|with_reducible exact s7) (fun hHeld => ?_)
   rw [←hWd]
   rw [←hWd] at hHeld
   clear hWd
   refine zI (i:=0) (v := ?v1) (by simp only [zA,zB];rfl) (by kernel_rfl) (by kernel_rfl) (by kernel_rfl) (by exact fun _ _ _ h=>h) (Or.inl ⟨by rfl,?y1⟩) hHeld ?r1
   case y1=>(intro w hSw;(try dsimp only at hSw);go_simp<;>with_reducible rfl)
   (try simp only [Act.put,zD,zE,zF])
   refine zI (i:=1) (v := ?v2) (by simp only [zA,zC,zB];rfl) (by kernel_rfl) (by kernel_rfl) (by kernel_rfl) (by exact fun _ _ _ h=>h) (Or.inl ⟨by rfl,?y2⟩) hHeld ?r2
   case y2=>(intro w hSw;(try dsimp only at hSw);go_simp<;>with_reducible rfl)
   (try simp only [Act.put,zD,zE,zF])
   refine zI (i:=2) (v := ?v3) (by simp only [zA,zC,zB];rfl) (by kernel_rfl) (by kernel_rfl) (by kernel_rfl) (by exact fun _ _ _ h=>h) (Or.inl ⟨by rfl,?y3⟩) hHeld ?r3
   case y3=>(intro w hSw;(try dsimp only at hSw);go_simp<;>with_reducible rfl)
   (try simp only [Act.put,zD,zE,zF])
   refine zI (i:=3) (v := ?v4) (by simp only [zA,zC,zB];rfl) (by kernel_rfl) (by kernel_rfl) (by kernel_rfl) (by exact fun _ _ _ h=>h) (Or.inl ⟨by rfl,?y4⟩) hHeld ?r4
   case y4=>(intro w hSw;(try dsimp only at hSw);go_simp<;>with_reducible rfl)
   (try simp only [Act.put,zD,zE,zF])
   refine zI (i:=4) (v := ?v5) (by simp only [zA,zC,zB];rfl) (by kernel_rfl) (by kernel_rfl) (by kernel_rfl) (by exact fun _ _ _ h=>h) (Or.inl ⟨by rfl,?y5⟩) hHeld ?r5
   case y5=>(intro w hSw;(try dsimp only at hSw);go_simp<;>with_reducible rfl)
   (try simp only [Act.put,zD,zE,zF])
   refine zI (i:=5) (v := ?v6) (by simp only [zA,zC,zB];rfl) (by kernel_rfl) (by kernel_rfl) (by kernel_rfl) (by exact fun _ _ _ h=>h) (Or.inl ⟨by rfl,?y6⟩) hHeld ?r6
   case y6=>(intro w hSw;(try dsimp only at hSw);go_simp<;>with_reducible rfl)
   (try simp only [Act.put,zD,zE,zF])
   refine zI (i:=6) (v := ?v7) (by simp only [zA,zC,zB];rfl) (by kernel_rfl) (by kernel_rfl) (by kernel_rfl) (by exact fun _ _ _ h=>h) (Or.inl ⟨by rfl,?y7⟩) hHeld ?r7
   case y7=>(intro w hSw;(try dsimp only at hSw);go_simp<;>with_reducible rfl)
   (try simp only [Act.put,zD,zE,zF])
   refine zI (i:=7) (v := ?v8) (by simp only [zA,zC,zB];rfl) (by kernel_rfl) (by kernel_rfl) (by kernel_rfl) (by exact fun _ _ _ h=>h) (Or.inl ⟨by rfl,?y8⟩) hHeld ?r8
   case y8=>(intro w hSw;(try dsimp only at hSw);go_simp<;>with_reducible rfl)
   (try simp only [Act.put,zD,zE,zF])
   refine zI (i:=8) (v := ?v9) (by simp only [zA,zC,zB];rfl) (by kernel_rfl) (by kernel_rfl) (by kernel_rfl) (by exact fun _ _ _ h=>h) (Or.inl ⟨by rfl,?y9⟩) hHeld ?r9
   case y9=>(intro w hSw;(try dsimp only at hSw);go_simp<;>with_reducible rfl)
   (try simp only [Act.put,zD,zE,zF])
   refine zI (i:=9) (v := ?v10) (by simp only [zA,zC,zB];rfl) (by kernel_rfl) (by kernel_rfl) (by kernel_rfl) (by exact fun _ _ _ h=>h) (Or.inl ⟨by rfl,?y10⟩) hHeld ?r10
   case y10=>(intro w hSw;(try dsimp only at hSw);go_simp<;>with_reducible rfl)
   (try simp only [Act.put,zD,zE,zF])
   refine zI (i:=10) (v := ?v11) (by simp only [zA,zC,zB];rfl) (by kernel_rfl) (by kernel_rfl) (by kernel_rfl) (by exact fun _ _ _ h=>h) (Or.inl ⟨by rfl,?y11⟩) hHeld ?r11
   case y11=>(intro w hSw;(try dsimp only at hSw);go_simp<;>with_reducible rfl)
   (try simp only [Act.put,zD,zE,zF])
   refine zI (i:=11) (v := ?v12) (by simp only [zA,zC,zB];rfl) (by kernel_rfl) (by kernel_rfl) (by kernel_rfl) (by exact fun _ _ _ h=>h) (Or.inl ⟨by rfl,?y12⟩) hHeld ?r12
   case y12=>(intro w hSw;(try dsimp only at hSw);go_simp<;>with_reducible rfl)
   (try simp only [Act.put,zD,zE,zF])
   refine zI (i:=12) (v := ?v13) (by simp only [zA,zC,zB];rfl) (by kernel_rfl) (by kernel_rfl) (by kernel_rfl) (by exact fun _ _ _ h=>h) (Or.inl ⟨by rfl,?y13⟩) hHeld ?r13
   case y13=>(intro w hSw;(try dsimp only at hSw);go_simp<;>with_reducible rfl)
   (try simp only [Act.put,zD,zE,zF])
   refine zI (i:=13) (v := ?v14) (by simp only [zA,zC,zB];rfl) (by kernel_rfl) (by kernel_rfl) (by kernel_rfl) (by exact fun _ _ _ h=>h) (Or.inl ⟨by rfl,?y14⟩) hHeld ?r14
   case y14=>(intro w hSw;(try dsimp only at hSw);go_simp<;>with_reducible rfl)
   (try simp only [Act.put,zD,zE,zF])
   refine zI (i:=14) (v := ?v15) (by simp only [zA,zC,zB];rfl) (by kernel_rfl) (by kernel_rfl) (by kernel_rfl) (by exact fun _ _ _ h=>h) (Or.inl ⟨by rfl,?y15⟩) hHeld ?r15
   case y15=>(intro w hSw;(try dsimp only at hSw);go_simp<;>with_reducible rfl)
   (try simp only [Act.put,zD,zE,zF])
   refine zI (i:=16) (v := ?v16) (by simp only [zA,zC,zB];rfl) (by kernel_rfl) (by kernel_rfl) (by kernel_rfl) (by exact fun _ _ _ h=>h) (Or.inl ⟨by rfl,?y16⟩) hHeld ?r16
   case y16=>(intro w hSw;(try dsimp only at hSw);go_simp<;>with_reducible rfl)
   (try simp only [Act.put,zD,zE,zF])
   refine zS (rs:=[15,17]) (by kernel_rfl) (by simp) ?_
   refine zM (by simp only [zA,zC,zB];rfl) (fun K hK => ?_) (zM (by simp only [zA,zC,zB];rfl) (fun K hK => ?_) zP)
   ·clear hHeld
    go_simp
    refine hK.out _ _ (by (try dsimp only);first|with_reducible exact s0|with_reducible exact s1|with_reducible exact s2|with_reducible exact s8|with_reducible exact s7) (fun hHeld => ?_)
    clear hK K
    (try simp only [Act.put,zD,zE,zF])
    refine zS (rs:=[17]) (by kernel_rfl) (by simp) ?_
    refine zM (by simp only [zA,zC,zB];rfl) (fun K hK => ?_) zP
    clear hHeld
    go_simp
    refine hK.out _ _ (by (try dsimp only);first|with_reducible exact s0|with_reducible exact s1|with_reducible exact s2|with_reducible exact s8|with_reducible exact s7) (fun hHeld => ?_)
    clear hK K
    (try simp only [Act.put,zD,zE,zF])
    refine zS (rs:=[18]) (by kernel_rfl) (by simp) ?_
    refine zM (by simp only [zA,zC,zB];rfl) (fun K hK => ?_) zP
    clear hHeld
    (refine jZ rfl (.tmp 50) (.tmp 52) 139 rfl 0 126 iA (.agg #[.int .i64 0, .int .i64 0, .int .i64 0, .int .i64 0]) 4 32 Try.underlying139 hiA hzA0 hzA1 hzA2 rfl (by decide) (.slice Aa nr ca) nr (acs (s.arcs.getD y [])) (by first|rfl|simp [Act.eval]) HOW.out ⟨Wd.heap.size,0,none⟩ 1 1 [.int .i64 al, .int .i64 (x:Int), .int .i64 (y:Int), .int .i64 ac] (by first|rfl|simp [Act.eval]) rfl HCA.out HOC.out HLM.out.1 HLM.out.2 (zQ _) ?_;intro v' w2 hown hg hat;obtain ⟨A',c',hv', -, -, -⟩:=wB hown;subst hv';obtain ⟨z17,y17,s7,s8,κ4,hs4,hf4,hb4⟩:=HKEY.out _ w2 hown hg hat;unfold Rd5 at s7 s8;have HS4:=Lib.hid hs4;have HF4:=Lib.hid hf4;have HB4:=Lib.hid hb4;clear hown hg hat hs4 hf4 hb4)
    refine hK.out _ _ (by (try dsimp only);first|with_reducible exact s0|with_reducible exact s1|with_reducible exact s2|with_reducible exact s8|with_reducible exact s7) (fun hHeld => ?_)
    clear hK K
    (try simp only [Act.put,zD,zE,zF])
    refine zI (i:=19) (v := ?v17) (by simp only [zA,zC,zB];rfl) (by kernel_rfl) (by kernel_rfl) (by kernel_rfl) (by exact fun _ _ _ h=>h) (Or.inl ⟨by rfl,?y17⟩) hHeld ?r17
    case y17=>(intro w hSw;(try dsimp only at hSw);go_simp<;>with_reducible rfl)
    (try simp only [Act.put,zD,zE,zF])
    refine zS (rs:=[20]) (by kernel_rfl) (by simp) ?_
    refine zM (by simp only [zA,zC,zB];rfl) (fun K hK => ?_) zP
    clear hHeld
    go_simp
    refine hK.out _ _ (by (try dsimp only);first|with_reducible exact s0|with_reducible exact s1|with_reducible exact s2|with_reducible exact s8|with_reducible exact s7) (fun hHeld => ?_)
    clear hK K
    (try simp only [Act.put,zD,zE,zF])
    clear hHeld
    refine yR (by kernel_rfl) ?_ _
    clear s0 s1 s2 s7 s8 z17 y17 qa qaa HKEY HOW HOC HCA HSd HFd HAd
    generalize w2.setCell ⟨U.ga,y,none⟩ (.slice A' (nr+1) c')=W4 at *
    have HS5:Hid (SolM κ4 W4.drew g { s with num:=num,arcs:=s.arcs.set y (s.arcs.getD y []++[⟨al,x,y,ac⟩]) } V { U with sa:=U.sa.set y (.slice A' (nr+1) c') }):=Lib.hid (HS4.out.drewN 1)
    have HF5:Hid (Fr κ κ4 w W4.drew eV):=Lib.hid (HF4.out.trans (Fr.drew _ _ _))
    have HB5:=Lib.hid (HB4.out.fr (Fr.drew κ4 W4 (fun _=>False)) id)
    go_upto_region 6 with fail
    obtain ⟨We,hWe⟩:∃We,We=W4.drew:=⟨_,rfl⟩
    rw [←hWe] at HS5 HF5 HB5
    have s1:We.cell? ⟨g,12,none⟩=some (.slice (some ⟨U.gc,0,none⟩) s.e.val.length s.e.val.length)∧We.cell? ⟨w.heap.size,0,none⟩=some (.int .i64 al):=⟨HS5.out.eng.cellR (i:=3) rfl,HB5.out.cell 0⟩
    have hs6:=HS5.out.setAct (vr al) true
    have hf6:=frs κ4 We (i:=vr al) (u := .bool true) HS5.out.act.k
    have s8:(We.setCell ⟨U.gc,vr al,none⟩ (.bool true)).cell? ⟨g,12,none⟩=some (.slice (some ⟨U.gc,0,none⟩) s.e.val.length s.e.val.length)∧(We.setCell ⟨U.gc,vr al,none⟩ (.bool true)).cell? ⟨w.heap.size,0,none⟩=some (.int .i64 al):=⟨hs6.eng.cellR (i:=3) rfl,(HB5.out.fr hf6 (by simp)).cell 0⟩
    have s0:=s1
    rw [hWe] at s0
    have qv:=HS5.out.actAt HIB.out.2.2
    have zv:=HS5.out.act.frozen (vr al)
    have yv:((vr al:Nat):Int)<(s.e.val.length:Int):=by have:=HIB.out.2.2;omega
    have HFIN:Hid (eC κ w g s V U al x y ac (.inl (num)) (.returned (.slice none 0 0)) (We.setCell ⟨U.gc,vr al,none⟩ (.bool true))):=Lib.hid ⟨rfl,κ4,{ U with sa:=U.sa.set y (.slice A' (nr+1) c') },hs6,HF5.out.trans (hf6.mono fun c hc=>by subst hc;trivial),rfl,rfl,rfl,rfl,rfl,rfl,rfl,rfl,rfl⟩
    clear hs6 hf6 HS5 HF5 HB5 HS4 HF4 HB4
    refine yF (S:=fun w'=>w'.cell? ⟨g,12,none⟩=some (.slice (some ⟨U.gc,0,none⟩) s.e.val.length s.e.val.length)∧w'.cell? ⟨w.heap.size,0,none⟩=some (.int .i64 al)) (by kernel_rfl) (by (try dsimp only);first|with_reducible exact s0|with_reducible exact s1|with_reducible exact s8) (fun hHeld => ?_)
    rw [←hWe]
    rw [←hWe] at hHeld
    clear hWe
    refine zI (i:=0) (v := ?v18) (by simp only [zA,zB];rfl) (by kernel_rfl) (by kernel_rfl) (by kernel_rfl) (by exact fun _ _ _ h=>h) (Or.inl ⟨by rfl,?y18⟩) hHeld ?r18
    case y18=>(intro w hSw;(try dsimp only at hSw);go_simp<;>with_reducible rfl)
    (try simp only [Act.put,zD,zE,zF])
    refine zI (i:=1) (v := ?v19) (by simp only [zA,zC,zB];rfl) (by kernel_rfl) (by kernel_rfl) (by kernel_rfl) (by exact fun _ _ _ h=>h) (Or.inl ⟨by rfl,?y19⟩) hHeld ?r19
    case y19=>(intro w hSw;(try dsimp only at hSw);go_simp<;>with_reducible rfl)
    (try simp only [Act.put,zD,zE,zF])
    refine zI (i:=2) (v := ?v20) (by simp only [zA,zC,zB];rfl) (by kernel_rfl) (by kernel_rfl) (by kernel_rfl) (by exact fun _ _ _ h=>h) (Or.inl ⟨by rfl,?y20⟩) hHeld ?r20
    case y20=>(intro w hSw;(try dsimp only at hSw);go_simp<;>with_reducible rfl)
    (try simp only [Act.put,zD,zE,zF])
    refine zI (i:=3) (v := ?v21) (by simp only [zA,zC,zB];rfl) (by kernel_rfl) (by kernel_rfl) (by kernel_rfl) (by exact fun _ _ _ h=>h) (Or.inl ⟨by rfl,?y21⟩) hHeld ?r21
    case y21=>(intro w hSw;(try dsimp only at hSw);go_simp<;>with_reducible rfl)
    (try simp only [Act.put,zD,zE,zF])
    refine zI (i:=4) (v := ?v22) (by simp only [zA,zC,zB];rfl) (by kernel_rfl) (by kernel_rfl) (by kernel_rfl) (by exact fun _ _ _ h=>h) (Or.inl ⟨by rfl,?y22⟩) hHeld ?r22
    case y22=>(intro w hSw;(try dsimp only at hSw);go_simp<;>with_reducible rfl)
    (try simp only [Act.put,zD,zE,zF])
    refine zI (i:=5) (v := ?v23) (by simp only [zA,zC,zB];rfl) (by kernel_rfl) (by kernel_rfl) (by kernel_rfl) (by exact fun _ _ _ h=>h) (Or.inl ⟨by rfl,?y23⟩) hHeld ?r23
    case y23=>(intro w hSw;(try dsimp only at hSw);go_simp<;>with_reducible rfl)
    (try simp only [Act.put,zD,zE,zF])
    refine zS (rs:=[6]) (by kernel_rfl) (by simp) ?_
    refine zM (by simp only [zA,zC,zB];rfl) (fun K hK => ?_) zP
    clear hHeld
    (refine wC rfl 64 _ _ rfl _ Try.func64 (by kernel_rfl) (by kernel_rfl) #[.int .i64 al] (by first|rfl|(simp [Act.eval];done)|(simp [Act.eval,Act.put];done)) (HV.out _) (fun e w' h=>⟨_,h.1⟩) ?_;rintro v9 w9 ⟨hv9,rfl⟩;injection hv9 with hv9;subst hv9)
    refine hK.out _ _ (by (try dsimp only);first|with_reducible exact s0|with_reducible exact s1|with_reducible exact s8) (fun hHeld => ?_)
    clear hK K
    (try simp only [Act.put,zD,zE,zF])
    refine zI (i:=7) (v := ?v24) (by simp only [zA,zC,zB];rfl) (by kernel_rfl) (by kernel_rfl) (by kernel_rfl) (by exact fun _ _ _ h=>h) (Or.inl ⟨by rfl,?y24⟩) hHeld ?r24
    case y24=>(intro w hSw;(try dsimp only at hSw);go_simp<;>with_reducible rfl)
    (try simp only [Act.put,zD,zE,zF])
    refine zS (rs:=[8]) (by kernel_rfl) (by simp) ?_
    refine zM (by simp only [zA,zC,zB];rfl) (fun K hK => ?_) zP
    clear hHeld
    go_simp
    refine hK.out _ _ (by (try dsimp only);first|with_reducible exact s0|with_reducible exact s1|with_reducible exact s8) (fun hHeld => ?_)
    clear hK K
    (try simp only [Act.put,zD,zE,zF])
    clear hHeld
    refine yR (by kernel_rfl) ?_ _
    clear s0 s1 s8 qv zv
    generalize We.setCell ⟨U.gc,vr al,none⟩ (.bool true)=W9 at *
    go_wp2_with fail
    go_ret
    exact HFIN.out
   ·clear hHeld
    go_simp
    refine hK.out _ _ (by (try dsimp only);first|with_reducible exact s0|with_reducible exact s1|with_reducible exact s2|with_reducible exact s8|with_reducible exact s7) (fun hHeld => ?_)
    clear hK K
    (try simp only [Act.put,zD,zE,zF])
    refine zS (rs:=[15]) (by kernel_rfl) (by simp) ?_
    refine zM (by simp only [zA,zC,zB];rfl) (fun K hK => ?_) zP
    clear hHeld
    go_simp
    refine hK.out _ _ (by (try dsimp only);first|with_reducible exact s0|with_reducible exact s1|with_reducible exact s2|with_reducible exact s8|with_reducible exact s7) (fun hHeld => ?_)
    clear hK K
    (try simp only [Act.put,zD,zE,zF])
    refine zS (rs:=[18]) (by kernel_rfl) (by simp) ?_
    refine zM (by simp only [zA,zC,zB];rfl) (fun K hK => ?_) zP
    clear hHeld
    (refine jZ rfl (.tmp 50) (.tmp 52) 139 rfl 0 126 iA (.agg #[.int .i64 0, .int .i64 0, .int .i64 0, .int .i64 0]) 4 32 Try.underlying139 hiA hzA0 hzA1 hzA2 rfl (by decide) (.slice Aa nr ca) nr (acs (s.arcs.getD y [])) (by first|rfl|simp [Act.eval]) HOW.out ⟨Wd.heap.size,0,none⟩ 1 1 [.int .i64 al, .int .i64 (x:Int), .int .i64 (y:Int), .int .i64 ac] (by first|rfl|simp [Act.eval]) rfl HCA.out HOC.out HLM.out.1 HLM.out.2 (zQ _) ?_;intro v' w2 hown hg hat;obtain ⟨A',c',hv', -, -, -⟩:=wB hown;subst hv';obtain ⟨z17,y17,s7,s8,κ4,hs4,hf4,hb4⟩:=HKEY.out _ w2 hown hg hat;unfold Rd5 at s7 s8;have HS4:=Lib.hid hs4;have HF4:=Lib.hid hf4;have HB4:=Lib.hid hb4;clear hown hg hat hs4 hf4 hb4)
    refine hK.out _ _ (by (try dsimp only);first|with_reducible exact s0|with_reducible exact s1|with_reducible exact s2|with_reducible exact s8|with_reducible exact s7) (fun hHeld => ?_)
    clear hK K
    (try simp only [Act.put,zD,zE,zF])
    refine zI (i:=19) (v := ?v25) (by simp only [zA,zC,zB];rfl) (by kernel_rfl) (by kernel_rfl) (by kernel_rfl) (by exact fun _ _ _ h=>h) (Or.inl ⟨by rfl,?y25⟩) hHeld ?r25
    case y25=>(intro w hSw;(try dsimp only at hSw);go_simp<;>with_reducible rfl)
    (try simp only [Act.put,zD,zE,zF])
    refine zS (rs:=[20]) (by kernel_rfl) (by simp) ?_
    refine zM (by simp only [zA,zC,zB];rfl) (fun K hK => ?_) zP
    clear hHeld
    go_simp
    refine hK.out _ _ (by (try dsimp only);first|with_reducible exact s0|with_reducible exact s1|with_reducible exact s2|with_reducible exact s8|with_reducible exact s7) (fun hHeld => ?_)
    clear hK K
    (try simp only [Act.put,zD,zE,zF])
    clear hHeld
    refine yR (by kernel_rfl) ?_ _
    clear s0 s1 s2 s7 s8 z17 y17 qa qaa HKEY HOW HOC HCA HSd HFd HAd
    generalize w2.setCell ⟨U.ga,y,none⟩ (.slice A' (nr+1) c')=W4 at *
    have HS5:Hid (SolM κ4 W4.drew g { s with num:=num,arcs:=s.arcs.set y (s.arcs.getD y []++[⟨al,x,y,ac⟩]) } V { U with sa:=U.sa.set y (.slice A' (nr+1) c') }):=Lib.hid (HS4.out.drewN 1)
    have HF5:Hid (Fr κ κ4 w W4.drew eV):=Lib.hid (HF4.out.trans (Fr.drew _ _ _))
    have HB5:=Lib.hid (HB4.out.fr (Fr.drew κ4 W4 (fun _=>False)) id)
    go_upto_region 6 with fail
    obtain ⟨We,hWe⟩:∃We,We=W4.drew:=⟨_,rfl⟩
    rw [←hWe] at HS5 HF5 HB5
    have s1:We.cell? ⟨g,12,none⟩=some (.slice (some ⟨U.gc,0,none⟩) s.e.val.length s.e.val.length)∧We.cell? ⟨w.heap.size,0,none⟩=some (.int .i64 al):=⟨HS5.out.eng.cellR (i:=3) rfl,HB5.out.cell 0⟩
    have hs6:=HS5.out.setAct (vr al) true
    have hf6:=frs κ4 We (i:=vr al) (u := .bool true) HS5.out.act.k
    have s8:(We.setCell ⟨U.gc,vr al,none⟩ (.bool true)).cell? ⟨g,12,none⟩=some (.slice (some ⟨U.gc,0,none⟩) s.e.val.length s.e.val.length)∧(We.setCell ⟨U.gc,vr al,none⟩ (.bool true)).cell? ⟨w.heap.size,0,none⟩=some (.int .i64 al):=⟨hs6.eng.cellR (i:=3) rfl,(HB5.out.fr hf6 (by simp)).cell 0⟩
    have s0:=s1
    rw [hWe] at s0
    have qv:=HS5.out.actAt HIB.out.2.2
    have zv:=HS5.out.act.frozen (vr al)
    have yv:((vr al:Nat):Int)<(s.e.val.length:Int):=by have:=HIB.out.2.2;omega
    have HFIN:Hid (eC κ w g s V U al x y ac (.inl (num)) (.returned (.slice none 0 0)) (We.setCell ⟨U.gc,vr al,none⟩ (.bool true))):=Lib.hid ⟨rfl,κ4,{ U with sa:=U.sa.set y (.slice A' (nr+1) c') },hs6,HF5.out.trans (hf6.mono fun c hc=>by subst hc;trivial),rfl,rfl,rfl,rfl,rfl,rfl,rfl,rfl,rfl⟩
    clear hs6 hf6 HS5 HF5 HB5 HS4 HF4 HB4
    refine yF (S:=fun w'=>w'.cell? ⟨g,12,none⟩=some (.slice (some ⟨U.gc,0,none⟩) s.e.val.length s.e.val.length)∧w'.cell? ⟨w.heap.size,0,none⟩=some (.int .i64 al)) (by kernel_rfl) (by (try dsimp only);first|with_reducible exact s0|with_reducible exact s1|with_reducible exact s8) (fun hHeld => ?_)
    rw [←hWe]
    rw [←hWe] at hHeld
    clear hWe
    refine zI (i:=0) (v := ?v26) (by simp only [zA,zB];rfl) (by kernel_rfl) (by kernel_rfl) (by kernel_rfl) (by exact fun _ _ _ h=>h) (Or.inl ⟨by rfl,?y26⟩) hHeld ?r26
    case y26=>(intro w hSw;(try dsimp only at hSw);go_simp<;>with_reducible rfl)
    (try simp only [Act.put,zD,zE,zF])
    refine zI (i:=1) (v := ?v27) (by simp only [zA,zC,zB];rfl) (by kernel_rfl) (by kernel_rfl) (by kernel_rfl) (by exact fun _ _ _ h=>h) (Or.inl ⟨by rfl,?y27⟩) hHeld ?r27
    case y27=>(intro w hSw;(try dsimp only at hSw);go_simp<;>with_reducible rfl)
    (try simp only [Act.put,zD,zE,zF])
    refine zI (i:=2) (v := ?v28) (by simp only [zA,zC,zB];rfl) (by kernel_rfl) (by kernel_rfl) (by kernel_rfl) (by exact fun _ _ _ h=>h) (Or.inl ⟨by rfl,?y28⟩) hHeld ?r28
    case y28=>(intro w hSw;(try dsimp only at hSw);go_simp<;>with_reducible rfl)
    (try simp only [Act.put,zD,zE,zF])
    refine zI (i:=3) (v := ?v29) (by simp only [zA,zC,zB];rfl) (by kernel_rfl) (by kernel_rfl) (by kernel_rfl) (by exact fun _ _ _ h=>h) (Or.inl ⟨by rfl,?y29⟩) hHeld ?r29
    case y29=>(intro w hSw;(try dsimp only at hSw);go_simp<;>with_reducible rfl)
    (try simp only [Act.put,zD,zE,zF])
    refine zI (i:=4) (v := ?v30) (by simp only [zA,zC,zB];rfl) (by kernel_rfl) (by kernel_rfl) (by kernel_rfl) (by exact fun _ _ _ h=>h) (Or.inl ⟨by rfl,?y30⟩) hHeld ?r30
    case y30=>(intro w hSw;(try dsimp only at hSw);go_simp<;>with_reducible rfl)
    (try simp only [Act.put,zD,zE,zF])
    refine zI (i:=5) (v := ?v31) (by simp only [zA,zC,zB];rfl) (by kernel_rfl) (by kernel_rfl) (by kernel_rfl) (by exact fun _ _ _ h=>h) (Or.inl ⟨by rfl,?y31⟩) hHeld ?r31
    case y31=>(intro w hSw;(try dsimp only at hSw);go_simp<;>with_reducible rfl)
    (try simp only [Act.put,zD,zE,zF])
    refine zS (rs:=[6]) (by kernel_rfl) (by simp) ?_
    refine zM (by simp only [zA,zC,zB];rfl) (fun K hK => ?_) zP
    clear hHeld
    (refine wC rfl 64 _ _ rfl _ Try.func64 (by kernel_rfl) (by kernel_rfl) #[.int .i64 al] (by first|rfl|(simp [Act.eval];done)|(simp [Act.eval,Act.put];done)) (HV.out _) (fun e w' h=>⟨_,h.1⟩) ?_;rintro v9 w9 ⟨hv9,rfl⟩;injection hv9 with hv9;subst hv9)
    refine hK.out _ _ (by (try dsimp only);first|with_reducible exact s0|with_reducible exact s1|with_reducible exact s8) (fun hHeld => ?_)
    clear hK K
    (try simp only [Act.put,zD,zE,zF])
    refine zI (i:=7) (v := ?v32) (by simp only [zA,zC,zB];rfl) (by kernel_rfl) (by kernel_rfl) (by kernel_rfl) (by exact fun _ _ _ h=>h) (Or.inl ⟨by rfl,?y32⟩) hHeld ?r32
    case y32=>(intro w hSw;(try dsimp only at hSw);go_simp<;>with_reducible rfl)
    (try simp only [Act.put,zD,zE,zF])
    refine zS (rs:=[8]) (by kernel_rfl) (by simp) ?_
    refine zM (by simp only [zA,zC,zB];rfl) (fun K hK => ?_) zP
    clear hHeld
    go_simp
    refine hK.out _ _ (by (try dsimp only);first|with_reducible exact s0|with_reducible exact s1|with_reducible exact s8) (fun hHeld => ?_)
    clear hK K
    (try simp only [Act.put,zD,zE,zF])
    clear hHeld
    refine yR (by kernel_rfl) ?_ _
    clear s0 s1 s8 qv zv
    generalize We.setCell ⟨U.gc,vr al,none⟩ (.bool true)=W9 at *
    go_wp2_with fail
    go_ret
    exact HFIN.out
  | inr l =>
   obtain ⟨g2,c2,U',rfl,hl0,hsame,hcol⟩:=hlr
   have HFIN:Hid (eC κ w g s V U al x y ac (.inr l) (.returned (.slice (some ⟨g2,0,none⟩) l.length c2)) W2):=Lib.hid ⟨g2,c2,U',rfl,hl0,hsame,fun col=>by
    obtain ⟨κ',h1,h2,h3⟩:=hcol col
    exact ⟨κ',h1,h2,HF2.out.trans (h3.mono fun c hc=>pU hc)⟩⟩
   clear hl0 hsame hcol HLW
   go_wp2_with fail
   go_ret
   exact HFIN.out
 ·have hq:=HQ.out
  rw [if_neg hcmp] at hq
  injection hq with hq
  subst hq
  have yc2:decide (vx-vy > ac)=false:=by simpa using hcmp
  have yc3:¬(vx-vy > ac):=hcmp
  have HS:Hid (SolM κ0 W1 g { s with num:=s.num } V U):=HS2
  have HF:=HF2
  have HA:=HA2
  have HNL:Hid (s.num.length=s.num.length):=Lib.hid rfl
  clear HS2 HF2 HA2 hcmp
  generalize κ0=κ1 at *
  have hn1:=HNL.out
  obtain ⟨Wd,hWd⟩:∃Wd,Wd=W1.drew:=⟨_,rfl⟩
  have HSd:Hid (SolM κ1 Wd g { s with num:=s.num } V U):=by refine Lib.hid ?_;rw [hWd];exact HS.out.drewN 1
  have HFd:Hid (Fr κ κ1 w Wd eV):=by refine Lib.hid ?_;rw [hWd];exact HF.out.trans (Fr.drew _ _ _)
  have HAd:Hid (HB κ1 Wd (.tmp 0) w.heap.size 126 #[.int .i64 al, .int .i64 (x:Int), .int .i64 (y:Int), .int .i64 ac]):=by refine Lib.hid ?_;rw [hWd];exact HA.out.fr (Fr.drew κ1 W1 (fun _=>False)) id
  clear HS HF HA
  obtain ⟨nr,hnr⟩:∃nr,nr=(s.arcs.getD y []).length:=⟨_,rfl⟩
  have HLM:Hid (nr+1≤maxLen∧(nr+1) * 32≤140737488355328):=by refine Lib.hid ?_;rw [hnr];exact HLIM.out
  obtain ⟨u,hu⟩:∃u,U.sa[y]? = some u:=⟨_,List.getElem?_eq_getElem (by have h5:U.sa.length=(s.num).length:=HSd.out.al;have:=HXY.out.2;omega)⟩
  have har:Hold κ1 Wd (.ar y) 126 4 u nr (acs (s.arcs.getD y [])):=by rw [hnr];exact HSd.out.ar y u hu
  obtain ⟨Aa,ca,hua,hca,hcam⟩:=har.shape
  subst hua
  have qa:=HSd.out.arcs.cell y
  rw [zA,hu] at qa
  have HUU:=Lib.hid hu
  have qaa:=(HSd.out.alloc (.cells #[.int .i64 al, .int .i64 (x:Int), .int .i64 (y:Int), .int .i64 ac] 126)).arcs.cell y
  rw [zA,hu] at qaa
  have s1:=fK HSd.out HAd.out hn1
  have s2:=fK (HSd.out.alloc (.cells #[.int .i64 al, .int .i64 (x:Int), .int .i64 (y:Int), .int .i64 ac] 126)) (HAd.out.fr (Fr.alloc κ1 Wd (.cells #[.int .i64 al, .int .i64 (x:Int), .int .i64 (y:Int), .int .i64 ac] 126) (fun _=>False)) id) hn1
  unfold Rd5 at s1 s2
  have s0:=s1
  rw [hWd] at s0
  have HOW:Hid ((Wd.alloc (.cells #[.int .i64 al, .int .i64 (x:Int), .int .i64 (y:Int), .int .i64 ac] 126)).ownsRow 0 126 4 (.slice Aa nr ca) nr (acs (s.arcs.getD y []))):=Lib.hid (by rw [hnr];rw [hnr] at hu;exact ((HSd.out.alloc (.cells #[.int .i64 al, .int .i64 (x:Int), .int .i64 (y:Int), .int .i64 ac] 126)).ar y _ hu).o)
  have HOC:Hid (∀u∈([.int .i64 al, .int .i64 (x:Int), .int .i64 (y:Int), .int .i64 ac]:List Value),u.oneCell'=true):=Lib.hid (by intro u hu;simp at hu;rcases hu with rfl|rfl|rfl|rfl<;>rfl)
  have HCA:=Lib.hid (wY Wd 126 [.int .i64 al, .int .i64 (x:Int), .int .i64 (y:Int), .int .i64 ac] rfl)
  have HKEY:Hid (∀v' w2,w2.ownsRow 0 126 4 v' (nr+1) (acs (s.arcs.getD y [])++[.int .i64 al, .int .i64 (x:Int), .int .i64 (y:Int), .int .i64 ac])→(Wd.alloc (.cells #[.int .i64 al, .int .i64 (x:Int), .int .i64 (y:Int), .int .i64 ac] 126)).grownBy w2 (Value.slice Aa nr ca).ownBlock→(v'.ownBlock=(Value.slice Aa nr ca).ownBlock∨v'.ownBlock=some (Wd.alloc (.cells #[.int .i64 al, .int .i64 (x:Int), .int .i64 (y:Int), .int .i64 ac] 126)).heap.size) →
    w2.frozen? ⟨U.ga,y,none⟩=false∧w2.cell? ⟨U.ga,y,none⟩=some (.slice Aa nr ca)∧Rd5 w2 g w.heap.size U.ga s.num.length al x y ac∧Rd5 (w2.setCell ⟨U.ga,y,none⟩ v') g w.heap.size U.ga s.num.length al x y ac ∧
    ∃κ4,SolM κ4 (w2.setCell ⟨U.ga,y,none⟩ v') g { s with num:=s.num,arcs:=s.arcs.set y (s.arcs.getD y []++[⟨al,x,y,ac⟩]) } V { U with sa:=U.sa.set y v' }∧Fr κ κ4 w (w2.setCell ⟨U.ga,y,none⟩ v') eV∧HB κ4 (w2.setCell ⟨U.ga,y,none⟩ v') (.tmp 0) w.heap.size 126 #[.int .i64 al, .int .i64 (x:Int), .int .i64 (y:Int), .int .i64 ac]):=by
   refine Lib.hid fun v' w2 k1 k2 k3 => ?_
   have f6:=Fr.alloc κ1 Wd (.cells #[.int .i64 al, .int .i64 (x:Int), .int .i64 (y:Int), .int .i64 ac] 126) (fun c=>c = .ar y)
   have ho:Hold κ1 (Wd.alloc (.cells #[.int .i64 al, .int .i64 (x:Int), .int .i64 (y:Int), .int .i64 ac] 126)) (.ar y) 126 4 (.slice Aa nr ca) nr (acs (s.arcs.getD y [])):=har.fr (Fr.alloc κ1 Wd (.cells #[.int .i64 al, .int .i64 (x:Int), .int .i64 (y:Int), .int .i64 ac] 126) (fun _=>False)) id
   obtain ⟨κ4,j1,j2⟩:=ho.app (S:=fun c=>c = .ar y) k1 k2 k3 rfl
   have f7:=f6.trans j2
   obtain ⟨r1,r2⟩:=HSd.out.putAr (l:=s.arcs.getD y []++[⟨al,x,y,ac⟩]) f7 (by show y<(s.num).length;rw [HNL.out];exact HXY.out.2) (by rw [oC,zJ,←hnr];exact j1) (fun a ha=>by
    rcases zK.1 ha with ha|ha
    ·exact HSd.out.arl y a ha
    ·rw [zH] at ha;subst ha;exact HIB.out.1)
   have hab:=HAd.out.fr f7 (by simp)
   have hab2:=HAd.out.fr r2 (by simp)
   have harc:=HSd.out.arcs.fr f7 (by simp)
   have heng:=HSd.out.eng.blk.fr f7 (by simp)
   refine ⟨harc.frozen y,?_,⟨?_,hab.cell 0,hab.cell 1,hab.cell 2,hab.cell 3⟩,fK r1 hab2 HNL.out,κ4,r1,HFd.out.trans (r2.mono fun c hc=>by rcases hc with rfl|rfl<;>trivial),hab2⟩
   ·rw [harc.cell y,zA];exact hu
   ·have q:=HSd.out.eng.cellR (i:=2) (u := .slice (some ⟨U.ga,0,none⟩) s.num.length s.num.length) (by rw [←HNL.out];rfl)
    rw [HSd.out.eng.blk.cell] at q
    rw [heng.cell]
    exact q
  have yy:(y:Int)<(s.num.length:Int):=by have:=HXY.out.2;omega
  clear har hu hn1 hnr
  go_upto_region 5 with fail
  refine yF (S:=fun w'=>w'.cell? ⟨g,11,none⟩=some (.slice (some ⟨U.ga,0,none⟩) s.num.length s.num.length)∧w'.cell? ⟨w.heap.size,0,none⟩=some (.int .i64 al)∧w'.cell? ⟨w.heap.size,1,none⟩=some (.int .i64 (x:Int))∧w'.cell? ⟨w.heap.size,2,none⟩=some (.int .i64 (y:Int))∧w'.cell? ⟨w.heap.size,3,none⟩=some (.int .i64 ac)) (by kernel_rfl) (by (try dsimp only);first|with_reducible exact s0|with_reducible exact s1|with_reducible exact s2|with_reducible exact s8|with_reducible exact s7) (fun hHeld => ?_)
  rw [←hWd]
  rw [←hWd] at hHeld
  clear hWd
  refine zI (i:=0) (v := ?v33) (by simp only [zA,zB];rfl) (by kernel_rfl) (by kernel_rfl) (by kernel_rfl) (by exact fun _ _ _ h=>h) (Or.inl ⟨by rfl,?y33⟩) hHeld ?r33
  case y33=>(intro w hSw;(try dsimp only at hSw);go_simp<;>with_reducible rfl)
  (try simp only [Act.put,zD,zE,zF])
  refine zI (i:=1) (v := ?v34) (by simp only [zA,zC,zB];rfl) (by kernel_rfl) (by kernel_rfl) (by kernel_rfl) (by exact fun _ _ _ h=>h) (Or.inl ⟨by rfl,?y34⟩) hHeld ?r34
  case y34=>(intro w hSw;(try dsimp only at hSw);go_simp<;>with_reducible rfl)
  (try simp only [Act.put,zD,zE,zF])
  refine zI (i:=2) (v := ?v35) (by simp only [zA,zC,zB];rfl) (by kernel_rfl) (by kernel_rfl) (by kernel_rfl) (by exact fun _ _ _ h=>h) (Or.inl ⟨by rfl,?y35⟩) hHeld ?r35
  case y35=>(intro w hSw;(try dsimp only at hSw);go_simp<;>with_reducible rfl)
  (try simp only [Act.put,zD,zE,zF])
  refine zI (i:=3) (v := ?v36) (by simp only [zA,zC,zB];rfl) (by kernel_rfl) (by kernel_rfl) (by kernel_rfl) (by exact fun _ _ _ h=>h) (Or.inl ⟨by rfl,?y36⟩) hHeld ?r36
  case y36=>(intro w hSw;(try dsimp only at hSw);go_simp<;>with_reducible rfl)
  (try simp only [Act.put,zD,zE,zF])
  refine zI (i:=4) (v := ?v37) (by simp only [zA,zC,zB];rfl) (by kernel_rfl) (by kernel_rfl) (by kernel_rfl) (by exact fun _ _ _ h=>h) (Or.inl ⟨by rfl,?y37⟩) hHeld ?r37
  case y37=>(intro w hSw;(try dsimp only at hSw);go_simp<;>with_reducible rfl)
  (try simp only [Act.put,zD,zE,zF])
  refine zI (i:=5) (v := ?v38) (by simp only [zA,zC,zB];rfl) (by kernel_rfl) (by kernel_rfl) (by kernel_rfl) (by exact fun _ _ _ h=>h) (Or.inl ⟨by rfl,?y38⟩) hHeld ?r38
  case y38=>(intro w hSw;(try dsimp only at hSw);go_simp<;>with_reducible rfl)
  (try simp only [Act.put,zD,zE,zF])
  refine zI (i:=6) (v := ?v39) (by simp only [zA,zC,zB];rfl) (by kernel_rfl) (by kernel_rfl) (by kernel_rfl) (by exact fun _ _ _ h=>h) (Or.inl ⟨by rfl,?y39⟩) hHeld ?r39
  case y39=>(intro w hSw;(try dsimp only at hSw);go_simp<;>with_reducible rfl)
  (try simp only [Act.put,zD,zE,zF])
  refine zI (i:=7) (v := ?v40) (by simp only [zA,zC,zB];rfl) (by kernel_rfl) (by kernel_rfl) (by kernel_rfl) (by exact fun _ _ _ h=>h) (Or.inl ⟨by rfl,?y40⟩) hHeld ?r40
  case y40=>(intro w hSw;(try dsimp only at hSw);go_simp<;>with_reducible rfl)
  (try simp only [Act.put,zD,zE,zF])
  refine zI (i:=8) (v := ?v41) (by simp only [zA,zC,zB];rfl) (by kernel_rfl) (by kernel_rfl) (by kernel_rfl) (by exact fun _ _ _ h=>h) (Or.inl ⟨by rfl,?y41⟩) hHeld ?r41
  case y41=>(intro w hSw;(try dsimp only at hSw);go_simp<;>with_reducible rfl)
  (try simp only [Act.put,zD,zE,zF])
  refine zI (i:=9) (v := ?v42) (by simp only [zA,zC,zB];rfl) (by kernel_rfl) (by kernel_rfl) (by kernel_rfl) (by exact fun _ _ _ h=>h) (Or.inl ⟨by rfl,?y42⟩) hHeld ?r42
  case y42=>(intro w hSw;(try dsimp only at hSw);go_simp<;>with_reducible rfl)
  (try simp only [Act.put,zD,zE,zF])
  refine zI (i:=10) (v := ?v43) (by simp only [zA,zC,zB];rfl) (by kernel_rfl) (by kernel_rfl) (by kernel_rfl) (by exact fun _ _ _ h=>h) (Or.inl ⟨by rfl,?y43⟩) hHeld ?r43
  case y43=>(intro w hSw;(try dsimp only at hSw);go_simp<;>with_reducible rfl)
  (try simp only [Act.put,zD,zE,zF])
  refine zI (i:=11) (v := ?v44) (by simp only [zA,zC,zB];rfl) (by kernel_rfl) (by kernel_rfl) (by kernel_rfl) (by exact fun _ _ _ h=>h) (Or.inl ⟨by rfl,?y44⟩) hHeld ?r44
  case y44=>(intro w hSw;(try dsimp only at hSw);go_simp<;>with_reducible rfl)
  (try simp only [Act.put,zD,zE,zF])
  refine zI (i:=12) (v := ?v45) (by simp only [zA,zC,zB];rfl) (by kernel_rfl) (by kernel_rfl) (by kernel_rfl) (by exact fun _ _ _ h=>h) (Or.inl ⟨by rfl,?y45⟩) hHeld ?r45
  case y45=>(intro w hSw;(try dsimp only at hSw);go_simp<;>with_reducible rfl)
  (try simp only [Act.put,zD,zE,zF])
  refine zI (i:=13) (v := ?v46) (by simp only [zA,zC,zB];rfl) (by kernel_rfl) (by kernel_rfl) (by kernel_rfl) (by exact fun _ _ _ h=>h) (Or.inl ⟨by rfl,?y46⟩) hHeld ?r46
  case y46=>(intro w hSw;(try dsimp only at hSw);go_simp<;>with_reducible rfl)
  (try simp only [Act.put,zD,zE,zF])
  refine zI (i:=14) (v := ?v47) (by simp only [zA,zC,zB];rfl) (by kernel_rfl) (by kernel_rfl) (by kernel_rfl) (by exact fun _ _ _ h=>h) (Or.inl ⟨by rfl,?y47⟩) hHeld ?r47
  case y47=>(intro w hSw;(try dsimp only at hSw);go_simp<;>with_reducible rfl)
  (try simp only [Act.put,zD,zE,zF])
  refine zI (i:=16) (v := ?v48) (by simp only [zA,zC,zB];rfl) (by kernel_rfl) (by kernel_rfl) (by kernel_rfl) (by exact fun _ _ _ h=>h) (Or.inl ⟨by rfl,?y48⟩) hHeld ?r48
  case y48=>(intro w hSw;(try dsimp only at hSw);go_simp<;>with_reducible rfl)
  (try simp only [Act.put,zD,zE,zF])
  refine zS (rs:=[15,17]) (by kernel_rfl) (by simp) ?_
  refine zM (by simp only [zA,zC,zB];rfl) (fun K hK => ?_) (zM (by simp only [zA,zC,zB];rfl) (fun K hK => ?_) zP)
  ·clear hHeld
   go_simp
   refine hK.out _ _ (by (try dsimp only);first|with_reducible exact s0|with_reducible exact s1|with_reducible exact s2|with_reducible exact s8|with_reducible exact s7) (fun hHeld => ?_)
   clear hK K
   (try simp only [Act.put,zD,zE,zF])
   refine zS (rs:=[17]) (by kernel_rfl) (by simp) ?_
   refine zM (by simp only [zA,zC,zB];rfl) (fun K hK => ?_) zP
   clear hHeld
   go_simp
   refine hK.out _ _ (by (try dsimp only);first|with_reducible exact s0|with_reducible exact s1|with_reducible exact s2|with_reducible exact s8|with_reducible exact s7) (fun hHeld => ?_)
   clear hK K
   (try simp only [Act.put,zD,zE,zF])
   refine zS (rs:=[18]) (by kernel_rfl) (by simp) ?_
   refine zM (by simp only [zA,zC,zB];rfl) (fun K hK => ?_) zP
   clear hHeld
   (refine jZ rfl (.tmp 50) (.tmp 52) 139 rfl 0 126 iA (.agg #[.int .i64 0, .int .i64 0, .int .i64 0, .int .i64 0]) 4 32 Try.underlying139 hiA hzA0 hzA1 hzA2 rfl (by decide) (.slice Aa nr ca) nr (acs (s.arcs.getD y [])) (by first|rfl|simp [Act.eval]) HOW.out ⟨Wd.heap.size,0,none⟩ 1 1 [.int .i64 al, .int .i64 (x:Int), .int .i64 (y:Int), .int .i64 ac] (by first|rfl|simp [Act.eval]) rfl HCA.out HOC.out HLM.out.1 HLM.out.2 (zQ _) ?_;intro v' w2 hown hg hat;obtain ⟨A',c',hv', -, -, -⟩:=wB hown;subst hv';obtain ⟨z17,y17,s7,s8,κ4,hs4,hf4,hb4⟩:=HKEY.out _ w2 hown hg hat;unfold Rd5 at s7 s8;have HS4:=Lib.hid hs4;have HF4:=Lib.hid hf4;have HB4:=Lib.hid hb4;clear hown hg hat hs4 hf4 hb4)
   refine hK.out _ _ (by (try dsimp only);first|with_reducible exact s0|with_reducible exact s1|with_reducible exact s2|with_reducible exact s8|with_reducible exact s7) (fun hHeld => ?_)
   clear hK K
   (try simp only [Act.put,zD,zE,zF])
   refine zI (i:=19) (v := ?v49) (by simp only [zA,zC,zB];rfl) (by kernel_rfl) (by kernel_rfl) (by kernel_rfl) (by exact fun _ _ _ h=>h) (Or.inl ⟨by rfl,?y49⟩) hHeld ?r49
   case y49=>(intro w hSw;(try dsimp only at hSw);go_simp<;>with_reducible rfl)
   (try simp only [Act.put,zD,zE,zF])
   refine zS (rs:=[20]) (by kernel_rfl) (by simp) ?_
   refine zM (by simp only [zA,zC,zB];rfl) (fun K hK => ?_) zP
   clear hHeld
   go_simp
   refine hK.out _ _ (by (try dsimp only);first|with_reducible exact s0|with_reducible exact s1|with_reducible exact s2|with_reducible exact s8|with_reducible exact s7) (fun hHeld => ?_)
   clear hK K
   (try simp only [Act.put,zD,zE,zF])
   clear hHeld
   refine yR (by kernel_rfl) ?_ _
   clear s0 s1 s2 s7 s8 z17 y17 qa qaa HKEY HOW HOC HCA HSd HFd HAd
   generalize w2.setCell ⟨U.ga,y,none⟩ (.slice A' (nr+1) c')=W4 at *
   have HS5:Hid (SolM κ4 W4.drew g { s with num:=s.num,arcs:=s.arcs.set y (s.arcs.getD y []++[⟨al,x,y,ac⟩]) } V { U with sa:=U.sa.set y (.slice A' (nr+1) c') }):=Lib.hid (HS4.out.drewN 1)
   have HF5:Hid (Fr κ κ4 w W4.drew eV):=Lib.hid (HF4.out.trans (Fr.drew _ _ _))
   have HB5:=Lib.hid (HB4.out.fr (Fr.drew κ4 W4 (fun _=>False)) id)
   go_upto_region 6 with fail
   obtain ⟨We,hWe⟩:∃We,We=W4.drew:=⟨_,rfl⟩
   rw [←hWe] at HS5 HF5 HB5
   have s1:We.cell? ⟨g,12,none⟩=some (.slice (some ⟨U.gc,0,none⟩) s.e.val.length s.e.val.length)∧We.cell? ⟨w.heap.size,0,none⟩=some (.int .i64 al):=⟨HS5.out.eng.cellR (i:=3) rfl,HB5.out.cell 0⟩
   have hs6:=HS5.out.setAct (vr al) true
   have hf6:=frs κ4 We (i:=vr al) (u := .bool true) HS5.out.act.k
   have s8:(We.setCell ⟨U.gc,vr al,none⟩ (.bool true)).cell? ⟨g,12,none⟩=some (.slice (some ⟨U.gc,0,none⟩) s.e.val.length s.e.val.length)∧(We.setCell ⟨U.gc,vr al,none⟩ (.bool true)).cell? ⟨w.heap.size,0,none⟩=some (.int .i64 al):=⟨hs6.eng.cellR (i:=3) rfl,(HB5.out.fr hf6 (by simp)).cell 0⟩
   have s0:=s1
   rw [hWe] at s0
   have qv:=HS5.out.actAt HIB.out.2.2
   have zv:=HS5.out.act.frozen (vr al)
   have yv:((vr al:Nat):Int)<(s.e.val.length:Int):=by have:=HIB.out.2.2;omega
   have HFIN:Hid (eC κ w g s V U al x y ac (.inl (s.num)) (.returned (.slice none 0 0)) (We.setCell ⟨U.gc,vr al,none⟩ (.bool true))):=Lib.hid ⟨rfl,κ4,{ U with sa:=U.sa.set y (.slice A' (nr+1) c') },hs6,HF5.out.trans (hf6.mono fun c hc=>by subst hc;trivial),rfl,rfl,rfl,rfl,rfl,rfl,rfl,rfl,rfl⟩
   clear hs6 hf6 HS5 HF5 HB5 HS4 HF4 HB4
   refine yF (S:=fun w'=>w'.cell? ⟨g,12,none⟩=some (.slice (some ⟨U.gc,0,none⟩) s.e.val.length s.e.val.length)∧w'.cell? ⟨w.heap.size,0,none⟩=some (.int .i64 al)) (by kernel_rfl) (by (try dsimp only);first|with_reducible exact s0|with_reducible exact s1|with_reducible exact s8) (fun hHeld => ?_)
   rw [←hWe]
   rw [←hWe] at hHeld
   clear hWe
   refine zI (i:=0) (v := ?v50) (by simp only [zA,zB];rfl) (by kernel_rfl) (by kernel_rfl) (by kernel_rfl) (by exact fun _ _ _ h=>h) (Or.inl ⟨by rfl,?y50⟩) hHeld ?r50
   case y50=>(intro w hSw;(try dsimp only at hSw);go_simp<;>with_reducible rfl)
   (try simp only [Act.put,zD,zE,zF])
   refine zI (i:=1) (v := ?v51) (by simp only [zA,zC,zB];rfl) (by kernel_rfl) (by kernel_rfl) (by kernel_rfl) (by exact fun _ _ _ h=>h) (Or.inl ⟨by rfl,?y51⟩) hHeld ?r51
   case y51=>(intro w hSw;(try dsimp only at hSw);go_simp<;>with_reducible rfl)
   (try simp only [Act.put,zD,zE,zF])
   refine zI (i:=2) (v := ?v52) (by simp only [zA,zC,zB];rfl) (by kernel_rfl) (by kernel_rfl) (by kernel_rfl) (by exact fun _ _ _ h=>h) (Or.inl ⟨by rfl,?y52⟩) hHeld ?r52
   case y52=>(intro w hSw;(try dsimp only at hSw);go_simp<;>with_reducible rfl)
   (try simp only [Act.put,zD,zE,zF])
   refine zI (i:=3) (v := ?v53) (by simp only [zA,zC,zB];rfl) (by kernel_rfl) (by kernel_rfl) (by kernel_rfl) (by exact fun _ _ _ h=>h) (Or.inl ⟨by rfl,?y53⟩) hHeld ?r53
   case y53=>(intro w hSw;(try dsimp only at hSw);go_simp<;>with_reducible rfl)
   (try simp only [Act.put,zD,zE,zF])
   refine zI (i:=4) (v := ?v54) (by simp only [zA,zC,zB];rfl) (by kernel_rfl) (by kernel_rfl) (by kernel_rfl) (by exact fun _ _ _ h=>h) (Or.inl ⟨by rfl,?y54⟩) hHeld ?r54
   case y54=>(intro w hSw;(try dsimp only at hSw);go_simp<;>with_reducible rfl)
   (try simp only [Act.put,zD,zE,zF])
   refine zI (i:=5) (v := ?v55) (by simp only [zA,zC,zB];rfl) (by kernel_rfl) (by kernel_rfl) (by kernel_rfl) (by exact fun _ _ _ h=>h) (Or.inl ⟨by rfl,?y55⟩) hHeld ?r55
   case y55=>(intro w hSw;(try dsimp only at hSw);go_simp<;>with_reducible rfl)
   (try simp only [Act.put,zD,zE,zF])
   refine zS (rs:=[6]) (by kernel_rfl) (by simp) ?_
   refine zM (by simp only [zA,zC,zB];rfl) (fun K hK => ?_) zP
   clear hHeld
   (refine wC rfl 64 _ _ rfl _ Try.func64 (by kernel_rfl) (by kernel_rfl) #[.int .i64 al] (by first|rfl|(simp [Act.eval];done)|(simp [Act.eval,Act.put];done)) (HV.out _) (fun e w' h=>⟨_,h.1⟩) ?_;rintro v9 w9 ⟨hv9,rfl⟩;injection hv9 with hv9;subst hv9)
   refine hK.out _ _ (by (try dsimp only);first|with_reducible exact s0|with_reducible exact s1|with_reducible exact s8) (fun hHeld => ?_)
   clear hK K
   (try simp only [Act.put,zD,zE,zF])
   refine zI (i:=7) (v := ?v56) (by simp only [zA,zC,zB];rfl) (by kernel_rfl) (by kernel_rfl) (by kernel_rfl) (by exact fun _ _ _ h=>h) (Or.inl ⟨by rfl,?y56⟩) hHeld ?r56
   case y56=>(intro w hSw;(try dsimp only at hSw);go_simp<;>with_reducible rfl)
   (try simp only [Act.put,zD,zE,zF])
   refine zS (rs:=[8]) (by kernel_rfl) (by simp) ?_
   refine zM (by simp only [zA,zC,zB];rfl) (fun K hK => ?_) zP
   clear hHeld
   go_simp
   refine hK.out _ _ (by (try dsimp only);first|with_reducible exact s0|with_reducible exact s1|with_reducible exact s8) (fun hHeld => ?_)
   clear hK K
   (try simp only [Act.put,zD,zE,zF])
   clear hHeld
   refine yR (by kernel_rfl) ?_ _
   clear s0 s1 s8 qv zv
   generalize We.setCell ⟨U.gc,vr al,none⟩ (.bool true)=W9 at *
   go_wp2_with fail
   go_ret
   exact HFIN.out
  ·clear hHeld
   go_simp
   refine hK.out _ _ (by (try dsimp only);first|with_reducible exact s0|with_reducible exact s1|with_reducible exact s2|with_reducible exact s8|with_reducible exact s7) (fun hHeld => ?_)
   clear hK K
   (try simp only [Act.put,zD,zE,zF])
   refine zS (rs:=[15]) (by kernel_rfl) (by simp) ?_
   refine zM (by simp only [zA,zC,zB];rfl) (fun K hK => ?_) zP
   clear hHeld
   go_simp
   refine hK.out _ _ (by (try dsimp only);first|with_reducible exact s0|with_reducible exact s1|with_reducible exact s2|with_reducible exact s8|with_reducible exact s7) (fun hHeld => ?_)
   clear hK K
   (try simp only [Act.put,zD,zE,zF])
   refine zS (rs:=[18]) (by kernel_rfl) (by simp) ?_
   refine zM (by simp only [zA,zC,zB];rfl) (fun K hK => ?_) zP
   clear hHeld
   (refine jZ rfl (.tmp 50) (.tmp 52) 139 rfl 0 126 iA (.agg #[.int .i64 0, .int .i64 0, .int .i64 0, .int .i64 0]) 4 32 Try.underlying139 hiA hzA0 hzA1 hzA2 rfl (by decide) (.slice Aa nr ca) nr (acs (s.arcs.getD y [])) (by first|rfl|simp [Act.eval]) HOW.out ⟨Wd.heap.size,0,none⟩ 1 1 [.int .i64 al, .int .i64 (x:Int), .int .i64 (y:Int), .int .i64 ac] (by first|rfl|simp [Act.eval]) rfl HCA.out HOC.out HLM.out.1 HLM.out.2 (zQ _) ?_;intro v' w2 hown hg hat;obtain ⟨A',c',hv', -, -, -⟩:=wB hown;subst hv';obtain ⟨z17,y17,s7,s8,κ4,hs4,hf4,hb4⟩:=HKEY.out _ w2 hown hg hat;unfold Rd5 at s7 s8;have HS4:=Lib.hid hs4;have HF4:=Lib.hid hf4;have HB4:=Lib.hid hb4;clear hown hg hat hs4 hf4 hb4)
   refine hK.out _ _ (by (try dsimp only);first|with_reducible exact s0|with_reducible exact s1|with_reducible exact s2|with_reducible exact s8|with_reducible exact s7) (fun hHeld => ?_)
   clear hK K
   (try simp only [Act.put,zD,zE,zF])
   refine zI (i:=19) (v := ?v57) (by simp only [zA,zC,zB];rfl) (by kernel_rfl) (by kernel_rfl) (by kernel_rfl) (by exact fun _ _ _ h=>h) (Or.inl ⟨by rfl,?y57⟩) hHeld ?r57
   case y57=>(intro w hSw;(try dsimp only at hSw);go_simp<;>with_reducible rfl)
   (try simp only [Act.put,zD,zE,zF])
   refine zS (rs:=[20]) (by kernel_rfl) (by simp) ?_
   refine zM (by simp only [zA,zC,zB];rfl) (fun K hK => ?_) zP
   clear hHeld
   go_simp
   refine hK.out _ _ (by (try dsimp only);first|with_reducible exact s0|with_reducible exact s1|with_reducible exact s2|with_reducible exact s8|with_reducible exact s7) (fun hHeld => ?_)
   clear hK K
   (try simp only [Act.put,zD,zE,zF])
   clear hHeld
   refine yR (by kernel_rfl) ?_ _
   clear s0 s1 s2 s7 s8 z17 y17 qa qaa HKEY HOW HOC HCA HSd HFd HAd
   generalize w2.setCell ⟨U.ga,y,none⟩ (.slice A' (nr+1) c')=W4 at *
   have HS5:Hid (SolM κ4 W4.drew g { s with num:=s.num,arcs:=s.arcs.set y (s.arcs.getD y []++[⟨al,x,y,ac⟩]) } V { U with sa:=U.sa.set y (.slice A' (nr+1) c') }):=Lib.hid (HS4.out.drewN 1)
   have HF5:Hid (Fr κ κ4 w W4.drew eV):=Lib.hid (HF4.out.trans (Fr.drew _ _ _))
   have HB5:=Lib.hid (HB4.out.fr (Fr.drew κ4 W4 (fun _=>False)) id)
   go_upto_region 6 with fail
   obtain ⟨We,hWe⟩:∃We,We=W4.drew:=⟨_,rfl⟩
   rw [←hWe] at HS5 HF5 HB5
   have s1:We.cell? ⟨g,12,none⟩=some (.slice (some ⟨U.gc,0,none⟩) s.e.val.length s.e.val.length)∧We.cell? ⟨w.heap.size,0,none⟩=some (.int .i64 al):=⟨HS5.out.eng.cellR (i:=3) rfl,HB5.out.cell 0⟩
   have hs6:=HS5.out.setAct (vr al) true
   have hf6:=frs κ4 We (i:=vr al) (u := .bool true) HS5.out.act.k
   have s8:(We.setCell ⟨U.gc,vr al,none⟩ (.bool true)).cell? ⟨g,12,none⟩=some (.slice (some ⟨U.gc,0,none⟩) s.e.val.length s.e.val.length)∧(We.setCell ⟨U.gc,vr al,none⟩ (.bool true)).cell? ⟨w.heap.size,0,none⟩=some (.int .i64 al):=⟨hs6.eng.cellR (i:=3) rfl,(HB5.out.fr hf6 (by simp)).cell 0⟩
   have s0:=s1
   rw [hWe] at s0
   have qv:=HS5.out.actAt HIB.out.2.2
   have zv:=HS5.out.act.frozen (vr al)
   have yv:((vr al:Nat):Int)<(s.e.val.length:Int):=by have:=HIB.out.2.2;omega
   have HFIN:Hid (eC κ w g s V U al x y ac (.inl (s.num)) (.returned (.slice none 0 0)) (We.setCell ⟨U.gc,vr al,none⟩ (.bool true))):=Lib.hid ⟨rfl,κ4,{ U with sa:=U.sa.set y (.slice A' (nr+1) c') },hs6,HF5.out.trans (hf6.mono fun c hc=>by subst hc;trivial),rfl,rfl,rfl,rfl,rfl,rfl,rfl,rfl,rfl⟩
   clear hs6 hf6 HS5 HF5 HB5 HS4 HF4 HB4
   refine yF (S:=fun w'=>w'.cell? ⟨g,12,none⟩=some (.slice (some ⟨U.gc,0,none⟩) s.e.val.length s.e.val.length)∧w'.cell? ⟨w.heap.size,0,none⟩=some (.int .i64 al)) (by kernel_rfl) (by (try dsimp only);first|with_reducible exact s0|with_reducible exact s1|with_reducible exact s8) (fun hHeld => ?_)
   rw [←hWe]
   rw [←hWe] at hHeld
   clear hWe
   refine zI (i:=0) (v := ?v58) (by simp only [zA,zB];rfl) (by kernel_rfl) (by kernel_rfl) (by kernel_rfl) (by exact fun _ _ _ h=>h) (Or.inl ⟨by rfl,?y58⟩) hHeld ?r58
   case y58=>(intro w hSw;(try dsimp only at hSw);go_simp<;>with_reducible rfl)
   (try simp only [Act.put,zD,zE,zF])
   refine zI (i:=1) (v := ?v59) (by simp only [zA,zC,zB];rfl) (by kernel_rfl) (by kernel_rfl) (by kernel_rfl) (by exact fun _ _ _ h=>h) (Or.inl ⟨by rfl,?y59⟩) hHeld ?r59
   case y59=>(intro w hSw;(try dsimp only at hSw);go_simp<;>with_reducible rfl)
   (try simp only [Act.put,zD,zE,zF])
   refine zI (i:=2) (v := ?v60) (by simp only [zA,zC,zB];rfl) (by kernel_rfl) (by kernel_rfl) (by kernel_rfl) (by exact fun _ _ _ h=>h) (Or.inl ⟨by rfl,?y60⟩) hHeld ?r60
   case y60=>(intro w hSw;(try dsimp only at hSw);go_simp<;>with_reducible rfl)
   (try simp only [Act.put,zD,zE,zF])
   refine zI (i:=3) (v := ?v61) (by simp only [zA,zC,zB];rfl) (by kernel_rfl) (by kernel_rfl) (by kernel_rfl) (by exact fun _ _ _ h=>h) (Or.inl ⟨by rfl,?y61⟩) hHeld ?r61
   case y61=>(intro w hSw;(try dsimp only at hSw);go_simp<;>with_reducible rfl)
   (try simp only [Act.put,zD,zE,zF])
   refine zI (i:=4) (v := ?v62) (by simp only [zA,zC,zB];rfl) (by kernel_rfl) (by kernel_rfl) (by kernel_rfl) (by exact fun _ _ _ h=>h) (Or.inl ⟨by rfl,?y62⟩) hHeld ?r62
   case y62=>(intro w hSw;(try dsimp only at hSw);go_simp<;>with_reducible rfl)
   (try simp only [Act.put,zD,zE,zF])
   refine zI (i:=5) (v := ?v63) (by simp only [zA,zC,zB];rfl) (by kernel_rfl) (by kernel_rfl) (by kernel_rfl) (by exact fun _ _ _ h=>h) (Or.inl ⟨by rfl,?y63⟩) hHeld ?r63
   case y63=>(intro w hSw;(try dsimp only at hSw);go_simp<;>with_reducible rfl)
   (try simp only [Act.put,zD,zE,zF])
   refine zS (rs:=[6]) (by kernel_rfl) (by simp) ?_
   refine zM (by simp only [zA,zC,zB];rfl) (fun K hK => ?_) zP
   clear hHeld
   (refine wC rfl 64 _ _ rfl _ Try.func64 (by kernel_rfl) (by kernel_rfl) #[.int .i64 al] (by first|rfl|(simp [Act.eval];done)|(simp [Act.eval,Act.put];done)) (HV.out _) (fun e w' h=>⟨_,h.1⟩) ?_;rintro v9 w9 ⟨hv9,rfl⟩;injection hv9 with hv9;subst hv9)
   refine hK.out _ _ (by (try dsimp only);first|with_reducible exact s0|with_reducible exact s1|with_reducible exact s8) (fun hHeld => ?_)
   clear hK K
   (try simp only [Act.put,zD,zE,zF])
   refine zI (i:=7) (v := ?v64) (by simp only [zA,zC,zB];rfl) (by kernel_rfl) (by kernel_rfl) (by kernel_rfl) (by exact fun _ _ _ h=>h) (Or.inl ⟨by rfl,?y64⟩) hHeld ?r64
   case y64=>(intro w hSw;(try dsimp only at hSw);go_simp<;>with_reducible rfl)
   (try simp only [Act.put,zD,zE,zF])
   refine zS (rs:=[8]) (by kernel_rfl) (by simp) ?_
   refine zM (by simp only [zA,zC,zB];rfl) (fun K hK => ?_) zP
   clear hHeld
   go_simp
   refine hK.out _ _ (by (try dsimp only);first|with_reducible exact s0|with_reducible exact s1|with_reducible exact s8) (fun hHeld => ?_)
   clear hK K
   (try simp only [Act.put,zD,zE,zF])
   clear hHeld
   refine yR (by kernel_rfl) ?_ _
   clear s0 s1 s8 qv zv
   generalize We.setCell ⟨U.gc,vr al,none⟩ (.bool true)=W9 at *
   go_wp2_with fail
   go_ret
   exact HFIN.out
end
end Go.Proofs.Yticieifacalocaa
