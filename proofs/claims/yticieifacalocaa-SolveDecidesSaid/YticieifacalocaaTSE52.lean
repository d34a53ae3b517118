/- Refute -/
import Derived.Test.YticieifacalocaaTSE51
namespace Go.Proofs.Yticieifacalocaa
open Go.RowKit
section
variable {w0 wr w':World} {g gv:Nat} {f:Form} {fa fc sv cv:Value} {val:List Int} {ps:List (Stp × Value)} {us:List Value} {cs:List (List Int)}
theorem RF.setv (h:RF w0 wr g gv f fa fc sv cv val ps us cs) (v:Nat) (a:Int):RF w0 (wr.setCell ⟨gv,v,none⟩ (.int .i64 a)) g gv f fa fc sv cv (val.set v a) ps us cs:=by
 have hset:wr.grownBy (wr.setCell ⟨gv,v,none⟩ (.int .i64 a)) (some gv):=wJ _ _ _ _
 have glt:=h.lt
 refine ⟨?_,h.bv.setI v a,h.os.grown hset (dM h.os.1 (by omega)) fun b hb=>by simp;omega,h.om.grown hset (dM h.om.1 (by omega)) fun b hb=>by simp;omega,h.ap,h.lo,h.lt,?_,?_⟩
 ·rw [qE];exact h.b.grown hset (by simp;omega)
 ·simpa using h.hi
 ·exact h.bl.grown hset h.bl.size fun k e=>by injection e with e;have:=h.lo;omega
theorem RF.cl (h:RF w0 wr g gv f fa fc sv cv val ps us cs) {k:Nat} {c:List Int} (hk:cs[k]? = some c) :
  ∃b off cap A' c',cv = .slice (some ⟨b,off,none⟩) cs.length cap∧cs.length≤cap∧cap≤maxLen∧b<wr.heap.size∧wr.cell? ⟨b,off+k,none⟩=some (.slice A' c.length c')∧Ints wr (.slice A' c.length c') c:=by
 obtain ⟨A,cap,vs,e,m1,m2,m3,m4,m5⟩:=h.om.mat
 obtain ⟨b,off,A',c',rfl,hb,hc,hi⟩:=Mat.at_ m4 m3 m5 hk
 exact ⟨b,off,cap,A',c',e,m1,m2,hb,hc,hi⟩
end
def Sml (ps:List (Stp × Value)):Prop:=∀q∈ps,q.1.lits.length≤1000
theorem Sml.snoc {ps:List (Stp × Value)} {q:Stp × Value} (h:Sml ps) (hq:q.1.lits.length≤1000):Sml (ps++[q]):=fun x hx=>by
 rcases zI.1 hx with hx|hx
 ·exact h x hx
 ·simp at hx;subst hx;exact hq
structure RI (w0 wr:World) (g gv:Nat) (f:Form) (fa fc sv cv:Value) (val:List Int) (ps:List (Stp × Value)) (us:List Value) (cs:List (List Int)):Prop where
 r:RF w0 wr g gv f fa fc sv cv val ps us cs
 good:Good f (ps.map (·.1)) cs
 sml:Sml ps
 ok:OkV f val
section
variable {w0 wr w':World} {g gv:Nat} {f:Form} {fa fc sv cv:Value} {val:List Int} {ps:List (Stp × Value)} {us:List Value} {cs:List (List Int)}
theorem RI.setv (h:RI w0 wr g gv f fa fc sv cv val ps us cs) (v:Nat) (a:Int) (ha:a=0∨a=(v:Int)+1∨a = -((v:Int)+1)):RI w0 (wr.setCell ⟨gv,v,none⟩ (.int .i64 a)) g gv f fa fc sv cv (val.set v a) ps us cs :=
 ⟨h.r.setv v a,h.good,h.sml,h.ok.set ha⟩
theorem RI.lens (h:RI w0 wr g gv f fa fc sv cv val ps us cs):cs.length=ps.length∧us.length=ps.length:=by
 have h1:=h.good.len
 have h2:=h.r.om.2.1
 simp at h1
 omega
theorem RI.add {sv' cv' lv u:Value} {s:Stp} {c:List Int} (h:RI w0 wr g gv f fa fc sv cv val ps us cs) (hr:RF w0 w' g gv f fa fc sv' cv' val (ps++[(s,lv)]) (us++[u]) (cs++[c])) (hd:deriv f s cs=some c) (hl:s.lits.length≤1000):RI w0 w' g gv f fa fc sv' cv' val (ps++[(s,lv)]) (us++[u]) (cs++[c]) :=
 ⟨hr,by rw [List.map_append];exact h.good.snoc hd,h.sml.snoc hl,h.ok⟩
theorem RI.keep (h:RI w0 wr g gv f fa fc sv cv val ps us cs) (hb:Below wr.heap.size wr w'):RI w0 w' g gv f fa fc sv cv val ps us cs:=⟨h.r.keep hb,h.good,h.sml,h.ok⟩
end
def RefRet (w0:World) (g gv:Nat) (f:Form) (fa fc:Value) (val:List Int) (N:Nat) (cs:List (List Int)) (n:Nat) (e:Ending) (w':World):Prop :=
 (∃(k:Nat) (c:List Int) (sv' cv':Value) (ps':List (Stp × Value)) (us':List Value) (cs':List (List Int)),e = .returned (.int .i64 (k:Int))∧RI w0 w' g gv f fa fc sv' cv' val ps' us' cs'∧ps'.length+1≤N+2 ^ (n+1)∧cs <+: cs'∧cs'[k]? = some c∧failsB val c=true) ∨
  (∃(val':List Int) (sv' cv':Value) (ps':List (Stp × Value)) (us':List Value) (cs':List (List Int)),e = .returned (.int .i64 (-1))∧RI w0 w' g gv f fa fc sv' cv' val' ps' us' cs'∧(∀x∈val',x≠0)∧pY f val')
theorem pre_at {cs cs':List (List Int)} {k:Nat} {c:List Int} (h:cs <+: cs') (hk:cs[k]? = some c):cs'[k]? = some c:=by
 obtain ⟨t,rfl⟩:=h
 rw [zP (zG.1 hk).1];exact hk
theorem oY {val c:List Int} (h:failsB val c=true) (hn:Nrm c) (hv:val.length≤1000):c.length≤1000:=by
 rcases up_len (a:=0) (M:=1000) hn.1 (fun x hx=>by
  have h1:=bM.1 h x hx
  have h2:=hn.nz hx
  refine ⟨by omega,?_⟩
  refine qB fun h3=>h2 ?_
  rw [List.getD_eq_getElem?_getD,List.getElem?_eq_none (by omega)] at h1
  simp at h1;omega) with h1|h1
 ·omega
 ·rw [h1];simp
theorem two_pow (n:Nat):2≤2 ^ (n+1):=by
 have:0<2 ^ n:=jQ (by omega)
 rw [wC];omega
theorem rM {val:List Int} {v:Nat} {a:Int} (h:val[v]? = some 0):(val.set v a).set v 0=val:=by
 rw [wB]
 refine List.ext_getElem? fun i => ?_
 rw [yY]
 split
 ·rename_i e;subst e;rw [if_pos (zG.1 h).1,h]
 ·rfl
set_option maxRecDepth 100000 in
set_option maxHeartbeats 4000000 in
theorem refute_any {w0:World} {g gv:Nat} {f:Form} {fa fc:Value} (hq:SmallQ f) (hfa:Diffs w0 fa f.atoms) (hfc:Mat w0 fc f.clauses) (n:Nat):∀(W:World) (sv cv:Value) (val:List Int) (ps:List (Stp × Value)) (us:List Value) (cs:List (List Int)),RI w0 W g gv f fa fc sv cv val ps us cs→free val=n→n≤10→ps.length+2 ^ (n+1)≤20000 →
  Calls Try.prog 32 #[.pointer (some ⟨g,0,none⟩)] W (RefRet w0 g gv f fa fc val ps.length cs n):=by
 induction n using Nat.strongRecOn with
 | ind n ih =>
 intro W sv cv val ps us cs hri hfree hn10 hps
 have HQ:=Lib.hid hq
 have HFA:=Lib.hid hfa
 have HFC:=Lib.hid hfc
 have HI:=Lib.hid hri
 have HFR:=Lib.hid hfree
 have HPS:=Lib.hid hps
 have IH:=Lib.hid ih
 have HL:=Lib.hid hri.lens
 have H2P:=Lib.hid (two_pow n)
 have hpl:ps.length≤20000:=by have:=two_pow n;omega
 have hvl:val.length≤18:=by have:=hq.bl;have:=hri.ok.1;omega
 clear ih hri hfree hps hq hfa hfc
 have HC:=Lib.hid (rconf_any HI.out.r HQ.out HI.out.ok HFA.out HFC.out (by omega) (by have:=HL.out.2;omega))
 go_enter Try.func32,Try.ntmps32
 go_wp2_with fail
 refine HC.out.mono ?_
 rintro e w1 (⟨sv',cv',s,lv,u,c,rfl,hrf,hdv,hfl,hll⟩|⟨sv',cv',rfl,hrf,hnc⟩)
 ·have HR:=Lib.hid (HI.out.add hrf hdv hll)
  have HF:=Lib.hid hfl
  clear hrf hdv hfl hll HC
  go_wp2_with fail
  go_ret
  exact .inl ⟨ps.length,c,sv',cv',_,_,_,rfl,HR.out,by have:=H2P.out;simp;omega,List.prefix_append _ _,by rw [←HL.out.1];simp,HF.out⟩
 ·have HR:Hid (RI w0 w1 g gv f fa fc sv' cv' val ps us cs):=⟨hrf,HI.out.good,HI.out.sml,HI.out.ok⟩
  have HN:=Lib.hid hnc
  have q4:=hrf.b.cell 4
  simp only [zA,zB,zC] at q4
  clear hrf hnc HC HI
  go_wp2_with fail
  go_loop [4] (fun i=>∃v:Nat,v≤val.length∧i = .int .i64 v∧∀x∈val.take v,x≠0) (fun i=>val.length-(intOf i).toNat)
  case atStart=>exact ⟨0,by omega,rfl,by simp⟩
  case round =>
   obtain ⟨v,hv,rfl,hnz⟩:=hrel
   have HNZ:=Lib.hid hnz
   clear hnz
   by_cases hvv:v<val.length
   ·obtain ⟨x,hx⟩:∃x,val[v]? = some x:=⟨_,List.getElem?_eq_getElem hvv⟩
    have p1:=HR.out.r.bv.cell v
    rw [gO hx] at p1
    have HX:=Lib.hid hx
    clear hx
    by_cases hx0:x=0
    ·subst hx0
     obtain ⟨m,hm⟩:∃m,n=m+1:=⟨free val-1,by have:=mH (a:=1) HX.out (by omega);have:=HFR.out;omega⟩
     have HM:=Lib.hid hm
     have hml:m≤10:=by omega
     have H2M:Hid (2 ^ (n+1)=2 * 2 ^ (m+1)):=by
      refine Lib.hid ?_
      simp only [hm,wC];omega
     clear hm
     have ev:((v:Int) == (val.length:Int))=false:=beq_eq_false_iff_ne.2 (by omega)
     have z1:=HR.out.r.bv.frozen v
     have HR2:=Lib.hid (HR.out.setv v ((v:Int)+1) (by omega))
     go_wp2_with fail
     generalize w1.setCell ⟨gv,v,none⟩ (.int .i64 ((v:Int)+1))=w2 at *
     clear q4 p1 z1
     have HC:=Lib.hid (IH.out m (by have:=HM.out;omega) w2 sv' cv' (val.set v ((v:Int)+1)) ps us cs HR2.out (by have:=mH (a:=(v:Int)+1) HX.out (by omega);have:=HFR.out;have:=HM.out;omega) hml (by have:=HPS.out;have:=H2M.out;omega))
     refine HC.out.mono ?_
     rintro e w3 (⟨k,c,sv3,cv3,ps3,us3,cs3,rfl,hri,hlen,hpre,hck,hfl⟩|⟨val3,sv3,cv3,ps3,us3,cs3,rfl,hri,hnz,hnc⟩)
     ·have HR3:=Lib.hid hri
      have HLN:=Lib.hid hlen
      have HPRE:=Lib.hid hpre
      have hp3:ps3.length≤20000:=by have:=HPS.out;have:=H2M.out;omega
      have HL3:=Lib.hid hri.lens
      have HCK:=Lib.hid hck
      have HFL:=Lib.hid hfl
      have HNC:=Lib.hid (hri.good.nrm (List.mem_of_getElem? hck))
      obtain ⟨b,off,cap,A1,c1,ecv,hcap,hcm,hbl,hcell,hint⟩:=hri.r.cl hck
      have HINT:=Lib.hid hint
      subst ecv
      unfold maxLen at hcm
      have hkl:k<cs3.length:=(zG.1 hck).1
      have q6:=hri.r.b.cell 6
      simp only [zA,zB,zC] at q6
      clear hri hlen hpre hck hfl hint HC HR HR2 HN
      go_wp2_with fail
      refine (has_any _ c _ _ HINT.out).mono ?_
      rintro e w4 ⟨rfl,rfl⟩
      have q4:=HR3.out.r.b.cell 4
      simp only [zA,zB,zC,qE] at q4
      have p1:=HR3.out.r.bv.cell v
      rw [gO (x:=(v:Int)+1) (by rw [xQ hvv])] at p1
      have z1:=HR3.out.r.bv.frozen v
      by_cases hmem : -((v:Int)+1)∈c
      ·have HMEM:=Lib.hid hmem
       have dm:decide (-((v:Int)+1)∈c)=true:=by simp [hmem]
       clear hmem
       have HR4:=Lib.hid (HR3.out.setv v (-((v:Int)+1)) (by omega))
       rw [wB] at HR4
       go_wp2_with fail
       generalize w3.setCell ⟨gv,v,none⟩ (.int .i64 (-((v:Int)+1)))=w5 at *
       clear q4 p1 z1 q6 hcell hbl hcap hcm
       have HC:=Lib.hid (IH.out m (by have:=HM.out;omega) w5 _ _ (val.set v (-((v:Int)+1))) ps3 us3 cs3 HR4.out (by have:=mH (a := -((v:Int)+1)) HX.out (by omega);have:=HFR.out;have:=HM.out;omega) hml (by have:=HPS.out;have:=H2M.out;have:=HLN.out;omega))
       refine HC.out.mono ?_
       rintro e w6 (⟨k2,c2,sv6,cv6,ps6,us6,cs6,rfl,hri,hlen,hpre,hck,hfl⟩|⟨val6,sv6,cv6,ps6,us6,cs6,rfl,hri,hnz,hnc⟩)
       ·have HR6:=Lib.hid hri
        have HLN6:=Lib.hid hlen
        have HPRE6:=Lib.hid hpre
        have hp6:ps6.length≤20000:=by have:=HPS.out;have:=H2M.out;have:=HLN.out;omega
        have HL6:=Lib.hid hri.lens
        have HCK6:=Lib.hid hck
        have HFL6:=Lib.hid hfl
        have HNC6:=Lib.hid (hri.good.nrm (List.mem_of_getElem? hck))
        have q4:=hri.r.b.cell 4
        simp only [zA,zB,zC,qE] at q4
        have p1:=hri.r.bv.cell v
        rw [gO (x := -((v:Int)+1)) (by rw [xQ hvv])] at p1
        have z1:=hri.r.bv.frozen v
        have HR7:=Lib.hid (hri.setv v 0 (by omega))
        rw [rM HX.out] at HR7
        clear hri hlen hpre hck hfl HC HR4 HR3 HINT
        go_upto_region 21 with fail
        generalize w6.setCell ⟨gv,v,none⟩ (.int .i64 0)=w7 at *
        clear q4 p1 z1
        obtain ⟨b,off,cap,A2,c2',ecv,hcap,hcm,hbl,hcell2,hint⟩:=HR7.out.r.cl HCK6.out
        have HINT2:=Lib.hid hint
        subst ecv
        unfold maxLen at hcm
        obtain ⟨b',off',cap',A1',c1',ecv, -, -, -,hcell1,hint1⟩:=HR7.out.r.cl (pre_at HPRE6.out HCK.out)
        injection ecv with e1 _ e2
        injection e1 with e1
        injection e1 with e1 e3 _
        subst e1 e2 e3
        have HINT1:=Lib.hid hint1
        have hkl2:k2<cs6.length:=(zG.1 HCK6.out).1
        have hkl1:k<cs6.length:=(zG.1 (pre_at HPRE6.out HCK.out)).1
        have q6:=HR7.out.r.b.cell 6
        simp only [zA,zB,zC] at q6
        clear hint hint1
        go_wp2_with fail
        refine (has_any _ c2 _ _ HINT2.out).mono ?_
        rintro e w8 ⟨rfl,rfl⟩
        by_cases hmem:(v:Int)+1∈c2
        ·have dm:decide ((v:Int)+1∈c2)=true:=by simp [hmem]
         obtain ⟨cr,hcr,hfr⟩:=res_fails hvv (by omega) HFL.out HFL6.out HNC.out HNC6.out HMEM.out hmem
         have HCR:=Lib.hid hcr
         have HFR2:=Lib.hid hfr
         have HLC1:Hid (c.length≤1000):=Lib.hid (oY HFL.out HNC.out (by simp;omega))
         have HLC2:Hid (c2.length≤1000):=Lib.hid (oY HFL6.out HNC6.out (by simp;omega))
         clear hmem hcr hfr
         go_wp2_with fail
         have i1:(0:Int)≤(k2:Int):=by omega
         have i2:(k2:Int)<(cs6.length:Int):=by omega
         have i3:(0:Int)≤(k:Int):=by omega
         have i4:(k:Int)<(cs6.length:Int):=by omega
         have hgl:=HR7.out.r.b.lt
         have HSOF:Hid (∀w',Below w7.heap.size w7 w'→w'.cell? ⟨g,6,none⟩=some (.slice (some ⟨b,off,none⟩) cs6.length cap)∧w'.cell? ⟨b,off+k2,none⟩=some (.slice A2 c2.length c2')∧w'.cell? ⟨b,off+k,none⟩=some (.slice A1' c.length c1')) :=
          fun w' h=>⟨(h.cell (p:=⟨g,6,none⟩) hgl).trans q6,(h.cell (p:=⟨b,off+k2,none⟩) hbl).trans hcell2,(h.cell (p:=⟨b,off+k,none⟩) hbl).trans hcell1⟩
         clear q6 hcell1 hcell2 hgl hbl
         go_region_held3 (fun w'=>w'.cell? ⟨g,6,none⟩=some (.slice (some ⟨b,off,none⟩) cs6.length cap)∧w'.cell? ⟨b,off+k2,none⟩=some (.slice A2 c2.length c2')∧w'.cell? ⟨b,off+k,none⟩=some (.slice A1' c.length c1')) (first|assumption|exact HSOF.out _ (zL _ _).drew) (first
          | (go_at_call 53;refine (hJ _ _ c2 c v _ (HINT2.out.keep (zL _ _).drew) (HINT1.out.keep (zL _ _).drew) (by have:=HLC2.out;omega) (by have:=HLC1.out;omega)).mono ?_;rintro e w9 ⟨cv9,rfl,h5,h6⟩;have hs9:=HSOF.out w9 (uM (zL _ _).drew h6)))
         rw [HCR.out] at h5 ⊢
         have h5:Own w9 w7.heap.size cv9 cr:=h5
         have h6:Below w7.heap.size w7 w9:=uM (zL _ _).drew h6
         have HR9:=Lib.hid (HR7.out.keep h6)
         have HC9:Hid (IntsO w9 (dC g _ _) cv9 cr):=Lib.hid (lN HR7.out.r (Nat.le_refl _) h5)
         obtain ⟨A9,c9,e9, -, -, -⟩:=wK h5.1
         subst e9
         clear h5 h6 hs9 i1 i2 i3 i4 HSOF
         have HDV:Hid (deriv f ⟨3,0,[],k2,k,v⟩ cs6=some cr):=by
          refine Lib.hid ?_
          unfold deriv
          rw [if_neg (by simp),if_neg (by simp),if_pos rfl,if_pos ⟨by simp,by simp⟩]
          simp only [Int.toNat_natCast]
          rw [HCK6.out,pre_at HPRE6.out HCK.out]
          exact HCR.out
         have HA:Hid _:=Lib.hid (nJ ⟨3,0,[],k2,k,v⟩ none A9 0 c9 cr HR9.out.r (nil_off _ _) (by have:=HL6.out.1;refine ⟨?_,?_,?_,?_,?_⟩<;>constructor<;>simp only<;>omega) HC9.out (by omega) (by have:=HL6.out.2;omega))
         go_wp2_with fail
         refine HA.out.mono ?_
         rintro e w10 ⟨sv',cv',rfl,h9⟩
         have H9:=Lib.hid (HR9.out.add h9 HDV.out (by simp))
         clear h9
         go_wp2_with fail
         go_ret
         exact .inl ⟨ps6.length,cr,_,_,_,_,_,rfl,H9.out,by have:=HLN.out;have:=HLN6.out;have:=H2M.out;simp;omega,(HPRE.out.trans HPRE6.out).trans (List.prefix_append _ _),by rw [←HL6.out.1];simp,HFR2.out⟩
        ·have HB:Hid (failsB val c2=true):=Lib.hid (lV HFL6.out (by rw [yK];exact hmem) hvv)
         have dm:decide ((v:Int)+1∈c2)=false:=by simp [hmem]
         clear hmem
         go_wp2_with fail
         go_ret
         exact .inl ⟨k2,c2,_,_,_,_,_,rfl,HR7.out,by have:=HLN.out;have:=HLN6.out;have:=H2M.out;omega,HPRE.out.trans HPRE6.out,HCK6.out,HB.out⟩
       ·have HR6:=Lib.hid hri
        have HNZ6:=Lib.hid hnz
        have HNC6:=Lib.hid hnc
        clear hri hnz hnc HC
        go_wp2_with fail
        go_ret
        exact .inr ⟨val6,_,_,_,_,_,rfl,HR6.out,HNZ6.out,HNC6.out⟩
      ·have HB:Hid (failsB val c=true):=Lib.hid (lV HFL.out hmem hvv)
       have dm:decide (-((v:Int)+1)∈c)=false:=by simp [hmem]
       clear hmem
       have HR4:=Lib.hid (HR3.out.setv v 0 (by omega))
       rw [rM HX.out] at HR4
       go_wp2_with fail
       go_ret
       exact .inl ⟨k,c,_,_,_,_,_,rfl,HR4.out,by have:=HLN.out;have:=H2M.out;omega,HPRE.out,HCK.out,HB.out⟩
     ·have HR3:=Lib.hid hri
      have HNZ3:=Lib.hid hnz
      have HNC3:=Lib.hid hnc
      clear hri hnz hnc HC
      go_wp2_with fail
      go_ret
      exact .inr ⟨val3,_,_,_,_,_,rfl,HR3.out,HNZ3.out,HNC3.out⟩
    ·have dx:(x != 0)=true:=by simpa using hx0
     have HN2:Hid (∀x∈val.take (v+1),x≠0):=by
      refine Lib.hid ?_
      intro y hy
      rw [wO HX.out] at hy
      rcases zI.1 hy with hy|hy
      ·exact HNZ.out y hy
      ·simp at hy;subst hy;exact hx0
     clear hx0
     go_wp2_with fail
     go_round
     case rel=>exact ⟨v+1,by omega,by go_num,HN2.out⟩
     case measure=>simp [intOf];omega
   ·have HN2:Hid (∀x∈val,x≠0):=by
     refine Lib.hid ?_
     have h:=HNZ.out
     rwa [zQ (by omega)] at h
    obtain rfl:v=val.length:=by omega
    go_wp2_with fail
    go_ret
    exact .inr ⟨val,_,_,_,_,_,rfl,HR.out,HN2.out,HN.out⟩
end Go.Proofs.Yticieifacalocaa
