/- Conf -/
import Derived.Test.YticieifacalocaaTSE13
namespace Go.Proofs.Yticieifacalocaa
open Go.RowKit
def ConfRet (w0:World) (g gv:Nat) (f:Form) (fa fc:Value) (val:List Int) (ps:List (Stp × Value)) (us:List Value) (cs:List (List Int)) (e:Ending) (w':World):Prop :=
 (∃sv' cv' s lv u c,e = .returned (.int .i64 (ps.length:Int))∧RF w0 w' g gv f fa fc sv' cv' val (ps++[(s,lv)]) (us++[u]) (cs++[c])∧deriv f s cs=some c∧failsB val c=true∧s.lits.length≤1000) ∨
  (∃sv' cv',e = .returned (.int .i64 (-1))∧RF w0 w' g gv f fa fc sv' cv' val ps us cs∧pY f val)
theorem lN {w0 W w':World} {g gv:Nat} {f:Form} {fa fc sv cv:Value} {val:List Int} {ps:List (Stp × Value)} {us:List Value} {cs:List (List Int)} {v:Value} {xs:List Int} {B:Nat} (h:RF w0 W g gv f fa fc sv cv val ps us cs) (hB:W.heap.size≤B) (ho:Own w' B v xs):IntsO w' (dC g sv cv) v xs:=by
 refine ho.intsO fun b h1 _ _=>⟨?_,fun e => ?_,fun e => ?_⟩
 ·have:=h.hi;omega
 ·have:=(h.os.1.lt b e.symm).2;omega
 ·have:=(h.om.1.lt b e.symm).2;omega
theorem mQ {g:Nat} {a w:World} (h:Below a.heap.size a w) (hB:a.heap.size≤g) (u0 u1 u2:Value):Below a.heap.size a (((w.setCell ⟨g,0,none⟩ u0).setCell ⟨g,1,none⟩ u1).setCell ⟨g,2,none⟩ u2):=by
 have step:∀{w:World} (i:Nat) (u:Value),Below a.heap.size a w→Below a.heap.size a (w.setCell ⟨g,i,none⟩ u):=fun i u h=>h.grown (wJ _ _ _ _) h.size fun k e=>by injection e with e;omega
 exact step 2 u2 (step 1 u1 (step 0 u0 h))
theorem nil_off (w:World) (P:Nat→Prop):IntsO w P (.slice none 0 0) []:=by
 exact (show Own w 0 (.slice none 0 0) [] from ⟨zY _ _ _ _,by simp⟩).intsO fun b _ _ e=>by cases e
structure CF (wo wr:World) (lv xv:Value) (ds:List Diff) (xs:List Int):Prop where
 ol:wr.ownsRow wo.heap.size 50 3 lv ds.length (ds.flatMap Diff.cells)
 ox:Own wr wo.heap.size xv xs
 ap:Apart lv xv
 bl:Below wo.heap.size wo wr
section
variable {wo wr w':World} {lv xv:Value} {ds:List Diff} {xs:List Int}
theorem CF.nil (wo:World):CF wo wo (.slice none 0 0) (.slice none 0 0) [] []:=⟨zY _ _ _ _,⟨zY _ _ _ _,by simp⟩,Apart.nil_left _,zL _ _⟩
theorem CF.keep (h:CF wo wr lv xv ds xs) (hb:Below wr.heap.size wr w'):CF wo w' lv xv ds xs:=⟨dQ h.ol hb,⟨dQ h.ox.1 hb,h.ox.2⟩,h.ap,h.bl.trans (hb.mono h.bl.size)⟩
theorem CF.pushL {lv':Value} {d:Diff} {o:Obj} (h:CF wo wr lv xv ds xs) (ho:w'.ownsRow wo.heap.size 50 3 lv' (ds.length+1) (ds.flatMap Diff.cells++d.cells)) (hg:(wr.alloc o).grownBy w' lv.ownBlock) (hat:lv'.ownBlock=lv.ownBlock∨lv'.ownBlock=some (wr.alloc o).heap.size):CF wo w' lv' xv (ds++[d]) xs:=by
 have hlt:∀k,lv.ownBlock=some k→wo.heap.size≤k∧k<wr.heap.size:=fun k e=>h.ol.lt k e
 have hlx:∀k,xv.ownBlock=some k→wo.heap.size≤k∧k<wr.heap.size:=fun k e=>h.ox.1.lt k e
 refine ⟨by simpa using ho,⟨(h.ox.1.alloc o).kept hg h.ap.symm.ne,h.ox.2⟩,?_,?_⟩
 ·exact (h.ap.symm.append (fun k e=>by have:=hlx k e;simp;omega) hat).symm
 ·exact (h.bl.alloc h.bl.size o).grown hg (by have:=h.bl.size;simp;omega) fun k e=>(hlt k e).1
theorem CF.pushX {xv':Value} {x:Int} {o:Obj} (h:CF wo wr lv xv ds xs) (ho:w'.ownsRow wo.heap.size 3 1 xv' (xs.length+1) (xs.map (Value.int .i64)++[.int .i64 x])) (hx:I64 x) (hg:(wr.alloc o).grownBy w' xv.ownBlock) (hat:xv'.ownBlock=xv.ownBlock∨xv'.ownBlock=some (wr.alloc o).heap.size):CF wo w' lv xv' ds (xs++[x]):=by
 have hlt:∀k,lv.ownBlock=some k→wo.heap.size≤k∧k<wr.heap.size:=fun k e=>h.ol.lt k e
 have hlx:∀k,xv.ownBlock=some k→wo.heap.size≤k∧k<wr.heap.size:=fun k e=>h.ox.1.lt k e
 refine ⟨(h.ol.alloc o).kept hg h.ap.ne,⟨by simpa using ho,fun z hz => ?_⟩,?_,?_⟩
 ·rcases zI.1 hz with hz|hz
  ·exact h.ox.2 z hz
  ·rw [zH] at hz;subst hz;exact hx
 ·exact h.ap.append (fun k e=>by have:=hlt k e;simp;omega) hat
 ·exact (h.bl.alloc h.bl.size o).grown hg (by have:=h.bl.size;simp;omega) fun k e=>(hlx k e).1
end
theorem cycB_of {ds:List Diff} (h:Cyc ds):cycB ds=true:=by simpa [cycB] using h
theorem atom_ok {ints:Int} {d:Diff} (h:dY ints d=true) (hi:ints≤1000):d.ok:=by
 obtain ⟨a,b,c⟩:=d
 obtain ⟨h1,h2,h3,h4,h5,h6,h7⟩:=gU.1 h
 refine ⟨?_,?_,?_⟩<;>constructor<;>simp only<;>omega
set_option maxRecDepth 100000 in
set_option maxHeartbeats 2000000 in
theorem rconf_any {w0 W:World} {g gv:Nat} {f:Form} {fa fc sv cv:Value} {val:List Int} {ps:List (Stp × Value)} {us:List Value} {cs:List (List Int)} (h:RF w0 W g gv f fa fc sv cv val ps us cs) (hq:SmallQ f) (hv:OkV f val) (hfa:Diffs w0 fa f.atoms) (hfc:Mat w0 fc f.clauses) (hp:ps.length≤100000) (hu:us.length≤100000) :
  Calls Try.prog 51 #[.pointer (some ⟨g,0,none⟩)] W (ConfRet w0 g gv f fa fc val ps us cs):=by
 have H1:=Lib.hid h
 have HQ:=Lib.hid hq
 have HV:=Lib.hid hv
 have HFA:=Lib.hid hfa
 obtain ⟨Aa,ca,ea, -, -, -, -⟩:=hfa
 subst ea
 obtain ⟨A,cp,vs,rfl,h1,h2,hm3,hm4,hm5⟩:=hfc
 unfold maxLen at h2
 have HM3:=Lib.hid hm3
 have HM4:=Lib.hid hm4
 have HM5:=Lib.hid hm5
 have hcl:=hq.cl
 have hal:f.atoms.length≤val.length:=by have:=hq.al;have:=hv.1;omega
 have hvl:val.length≤18:=by have:=hq.bl;have:=hv.1;omega
 have q3:=h.b.cell 3
 simp only [zA,zB,zC] at q3
 clear hm3 hm4 hm5 h hq hv
 go_enter Try.func51,Try.ntmps51
 go_wp2_with fail
 clear q3
 go_loopw [24] (fun i wr=>∃k:Nat,k≤f.clauses.length∧i = .int .i64 k∧(∀xs∈f.clauses.take k,∀n,wS xs=some n→failsB val n=false)∧Below W.heap.size W wr) (fun i _=>f.clauses.length-(intOf i).toNat)
 case atStart=>exact ⟨0,by omega,rfl,by simp,zL _ _⟩
 case round =>
  obtain ⟨k,hk,rfl,hno,hbw⟩:=hrel
  have HNO:=Lib.hid hno
  have HB:=Lib.hid hbw
  have H2:=Lib.hid (H1.out.keep hbw)
  clear hno hbw
  by_cases hlt:k<f.clauses.length
  ·obtain ⟨x,hx⟩:∃c,f.clauses[k]? = some c:=⟨_,List.getElem?_eq_getElem hlt⟩
   obtain ⟨b,off,A1,c1,rfl,hb,hcell,hI⟩:=Mat.at_ (HM4.out.keep H2.out.bl) HM3.out (fun k u xs a b=>(HM5.out k u xs a b).keep H2.out.bl) hx
   have HI:=Lib.hid hI
   have HX:=Lib.hid hx
   have HLE:=Lib.hid (HQ.out.cs x (List.mem_of_getElem? hx))
   clear hx hI
   go_wp2_with fail
   refine (cW _ x _ HI.out (by have:=HLE.out.1;omega)).mono ?_
   rintro e w2 ⟨v,rfl,h5,h6⟩
   have H5:=Lib.hid h5
   have H6:=Lib.hid (H2.out.keep h6)
   have HB2:=Lib.hid (HB.out.trans (h6.mono HB.out.size))
   have HS6:=Lib.hid h6.size
   clear h5 h6 hcell
   cases hd:wS x with
   | none =>
    have HN:Hid (∀xs∈f.clauses.take (k+1),∀n,wS xs=some n→failsB val n=false):=by
     refine Lib.hid ?_
     intro xs hxs n hn
     rw [yQ,HX.out] at hxs
     rcases zI.1 hxs with h|h
     ·exact HNO.out xs h n hn
     ·simp at h;subst h;rw [hd] at hn;cases hn
    clear hd
    simp only [kN]
    go_wp2_with fail
    go_roundw
    case rel=>exact ⟨k+1,by omega,by go_num,HN.out,HB2.out⟩
    case measure=>simp [intOf];omega
   | some n =>
    rw [hd] at H5
    simp only [yE,xU] at H5 ⊢
    have HD:=Lib.hid hd
    obtain ⟨Ad,cd,hdv, -, -, -⟩:=wK H5.out.1
    subst hdv
    clear hd
    have HOKN:Hid (∀y∈n,y≠0 ∧ -(val.length:Int)≤y∧y≤val.length):=by
     refine Lib.hid ?_
     intro y hy
     have hs:=wZ x
     rw [HD.out] at hs
     have:=gW.1 (HLE.out.2 y ((hs.2.1 y).1 hy))
     have:=HV.out.1
     omega
    have HFI:=Lib.hid (rfails_any _ n H6.out H5.out.ints HOKN.out (by omega))
    go_wp2_with fail
    refine HFI.out.mono ?_
    rintro e w3 ⟨rfl,h7⟩
    have H7:=Lib.hid (H6.out.keep h7)
    have HB3:=Lib.hid (HB2.out.trans (h7.mono HB2.out.size))
    have H8:Hid (IntsO w3 (dC g sv cv) (.slice Ad n.length cd) n):=(lN H2.out (Nat.le_refl _) H5.out).keep h7
    clear h7
    cases hf:failsB val n with
    | false =>
     have HN:Hid (∀xs∈f.clauses.take (k+1),∀n,wS xs=some n→failsB val n=false):=by
      refine Lib.hid ?_
      intro xs hxs m hn
      rw [yQ,HX.out] at hxs
      rcases zI.1 hxs with h|h
      ·exact HNO.out xs h m hn
      ·simp at h;subst h;rw [HD.out] at hn;injection hn with hn;subst hn;exact hf
     clear hf
     go_wp2_with fail
     go_roundw
     case rel=>exact ⟨k+1,by omega,by go_num,HN.out,HB3.out⟩
     case measure=>simp [intOf];omega
    | true =>
     have HF:=Lib.hid hf
     clear hf
     have HDV:Hid (deriv f ⟨1,k,[],0,0,0⟩ cs=some n):=by
      refine Lib.hid ?_
      unfold deriv
      rw [if_pos rfl,if_pos (show (0:Int)≤(k:Int) by omega),Int.toNat_natCast,HX.out]
      exact HD.out
     have HA:Hid _:=Lib.hid (nJ ⟨1,k,[],0,0,0⟩ none Ad 0 cd n H7.out (nil_off _ _) (by refine ⟨?_,?_,?_,?_,?_⟩<;>constructor<;>simp only<;>omega) H8.out (by omega) (by omega))
     go_wp2_with fail
     refine HA.out.mono ?_
     rintro e w4 ⟨sv',cv',rfl,h9⟩
     have H9:=Lib.hid h9
     clear h9
     go_wp2_with fail
     go_ret
     exact .inl ⟨_,_,_,_,_,_,rfl,H9.out,HDV.out,HF.out,by simp⟩
  ·have q2:=H2.out.b.cell 2
   simp only [zA,zB,zC] at q2
   have HALL:Hid (∀xs∈f.clauses,∀n,wS xs=some n→failsB val n=false):=by
    refine Lib.hid ?_
    have:=HNO.out
    rwa [zQ (by omega)] at this
   obtain ⟨iI,hiI,hzI0,hzI1,hzI2⟩:=qC gI
   obtain ⟨iD,hiD,hzD0,hzD1,hzD2⟩:=qC aD
   go_wp2_with fail
   clear q2
   obtain ⟨wo,hwo⟩:∃wo:World,wo=wr:=⟨_,rfl⟩
   subst hwo
   go_loopw [7,8,52] (fun lv xv i wr=>∃(k:Nat) (ds:List Diff),k≤f.atoms.length∧i = .int .i64 k∧bB f.atoms (asgK val k)=some ds∧CF wo wr lv xv ds (asgK val k)) (fun _ _ i _=>f.atoms.length-(intOf i).toNat)
   case atStart=>exact ⟨0,[],by omega,rfl,rfl,CF.nil _⟩
   case round =>
    obtain ⟨j,ds,hj,rfl,hbn,hcf⟩:=hrel
    have HBN:=Lib.hid hbn
    have HCF:=Lib.hid hcf
    have H3:=Lib.hid (H2.out.keep hcf.bl)
    have hsz:=hcf.bl.size
    obtain ⟨Al,cl,el, -, -, -⟩:=wK hcf.ol
    obtain ⟨Ax,cx,ex, -, -, -⟩:=wK hcf.ox.1
    subst el ex
    have hkl:=asgK_len val j
    have HDL:=Lib.hid (eH hbn)
    clear hbn hcf
    by_cases hjl:j<f.atoms.length
    ·have hjv:j<val.length:=by omega
     obtain ⟨x,hx⟩:∃x,val[j]? = some x:=⟨_,List.getElem?_eq_getElem hjv⟩
     have q4:=H3.out.b.cell 4
     simp only [zA,zB,zC] at q4
     have p1:=H3.out.bv.cell j
     rw [gO hx] at p1
     have HX:=Lib.hid hx
     clear hx
     by_cases hx0:x=0
     ·have HKN:Hid (asgK val (j+1)=asgK val j):=asgK_no (by rw [HX.out,hx0])
      subst hx0
      go_wp2_with fail
      go_roundw
      case rel=>exact ⟨j+1,ds,by omega,by go_num,by rw [HKN.out];exact HBN.out,by rw [HKN.out];exact HCF.out⟩
      case measure=>simp [intOf];omega
     ·have dx:(x != 0)=true:=by simpa using hx0
      have HX0:=Lib.hid hx0
      clear hx0
      obtain ⟨d,hbd,d1,d2,d3,d4,d5,d6,d7⟩:=eO HQ.out HV.out HX.out HX0.out hjl
      have HBD:=Lib.hid hbd
      clear hbd
      have HCALL:Hid (∀w',Below wr.heap.size wr w'→Calls Try.prog 33 #[.agg #[.int .i64 f.ints, .int .i64 f.bools, .slice Aa f.atoms.length ca, .slice A f.clauses.length cp], .int .i64 x] w' fun e w2=>e = .returned (.tuple #[.agg #[.int .i64 d.x, .int .i64 d.y, .int .i64 d.c], .bool true])∧Below w'.heap.size w' w2):=by
       refine Lib.hid ?_
       intro w' hw
       have h:=eZ (.int .i64 f.ints) (.int .i64 f.bools) (.slice Aa f.atoms.length ca) (.slice A f.clauses.length cp) f.atoms w' x (HFA.out.keep ((H3.out.keep hw).bl)) (fun d hd=>by have:=(HQ.out.at_ d hd).2.1;omega) (by have:=HV.out.2 j x HX.out;constructor<;>omega)
       rw [HBD.out] at h
       exact h
      have jv:(j:Int)<(val.length:Int):=by omega
      have jv0:(0:Int)≤(j:Int):=by omega
      have HSOF:Hid (∀w',Below wr.heap.size wr w'→w'.cell? ⟨g,0,none⟩=some (.int .i64 f.ints)∧w'.cell? ⟨g,1,none⟩=some (.int .i64 f.bools)∧w'.cell? ⟨g,2,none⟩=some (.slice Aa f.atoms.length ca)∧w'.cell? ⟨g,3,none⟩=some (.slice A f.clauses.length cp)∧w'.cell? ⟨g,4,none⟩=some (.slice (some ⟨gv,0,none⟩) val.length val.length)∧w'.cell? ⟨gv,j,none⟩=some (.int .i64 x)):=by
       refine Lib.hid ?_
       intro w' hw
       have hk:=H3.out.keep hw
       have a5:=hk.bv.cell j
       rw [gO HX.out] at a5
       exact ⟨hk.b.cell 0,hk.b.cell 1,hk.b.cell 2,hk.b.cell 3,hk.b.cell 4,a5⟩
      go_upto_region 14 with fail
      go_cut [10] (fun p wx=>∃b,p = .pointer (some ⟨b,0,none⟩)∧Blk wx b 50 #[.int .i64 d.x, .int .i64 d.y, .int .i64 d.c]∧wr.heap.size≤b∧Below wr.heap.size wr wx)
      case first =>
       go_region_held3 (fun w'=>w'.cell? ⟨g,0,none⟩=some (.int .i64 f.ints)∧w'.cell? ⟨g,1,none⟩=some (.int .i64 f.bools)∧w'.cell? ⟨g,2,none⟩=some (.slice Aa f.atoms.length ca)∧w'.cell? ⟨g,3,none⟩=some (.slice A f.clauses.length cp)∧w'.cell? ⟨g,4,none⟩=some (.slice (some ⟨gv,0,none⟩) val.length val.length)∧w'.cell? ⟨gv,j,none⟩=some (.int .i64 x)) (first|assumption|exact HSOF.out _ (zL _ _).drew|exact HSOF.out _ ((zL _ _).alloc (Nat.le_refl _) _).drew|exact HSOF.out _ hb3|exact HSOF.out _ (hb3.alloc hb3.size _)|exact HSOF.out _ (mQ hb3 (Nat.le_refl _) _ _ _)) (first
        | (go_at_call 33;refine (HCALL.out _ (by first|exact (zL _ _).drew|exact ((zL _ _).alloc (Nat.le_refl _) _).drew|exact ((zL _ _).drew.alloc (Nat.le_refl _) _))).mono ?_;rintro e w2 ⟨rfl,hb2⟩;first
         | (have hb3:Below wr.heap.size wr w2:=((zL _ _).drew).trans hb2)
         | (have hb3:Below wr.heap.size wr w2:=(((zL _ _).alloc (Nat.le_refl _) _).drew).trans (hb2.mono (by simp));have B9:=Lib.hid (((Blk.new wr 50 #[.int .i64 0, .int .i64 0, .int .i64 0]).drewN 1).keep hb2);have y0:=B9.out.cell 0;have y1:=B9.out.cell 1;have y2:=B9.out.cell 2;have z0:=B9.out.frozen 0;have z1:=B9.out.frozen 1;have z2:=B9.out.frozen 2;simp only [zA,zB,zC] at y0 y1 y2)))
       ·go_wp2_with fail
        go_meet
        exact ⟨_,rfl,Blk.new _ _ _,hb3.size,hb3.alloc hb3.size _⟩
       ·go_wp2_with fail
        go_meet
        exact ⟨_,rfl,((B9.out.set_ 0 _).set_ 1 _).set_ 2 _,Nat.le_refl _,mQ hb3 (Nat.le_refl _) _ _ _⟩
      case rest =>
       obtain ⟨b,rfl,hbk,hbs,hbw⟩:=hcut
       have r0:=hbk.cell 0
       have r1:=hbk.cell 1
       have r2:=hbk.cell 2
       simp only [zA,zB,zC] at r0 r1 r2
       have HC4:=Lib.hid (HCF.out.keep hbw)
       have H4:=Lib.hid (H3.out.keep hbw)
       clear hbk hbw HCALL HSOF p1 q4
       have HO:Hid (∀u∈([.int .i64 d.x, .int .i64 d.y, .int .i64 d.c]:List Value),u.oneCell'=true):=by
        refine Lib.hid ?_
        intro u hu;simp at hu;rcases hu with rfl|rfl|rfl<;>rfl
       have H63:Hid (ds.length+1≤maxLen):=by refine Lib.hid ?_;have:=HDL.out;unfold maxLen;omega
       have HBY:Hid ((ds.length+1) * 24≤140737488355328):=by refine Lib.hid ?_;have:=HDL.out;omega
       have HBA:Hid (wo.heap.size≤(wc.alloc (.cells #[.int .i64 d.x, .int .i64 d.y, .int .i64 d.c] 50)).heap.size):=by
        refine Lib.hid ?_
        have:=HC4.out.bl.size
        simp;omega
       go_wp2_with (at_builtin;refine zV _ rfl _ _ 26 rfl wo.heap.size 50 iD (.agg #[.int .i64 0, .int .i64 0, .int .i64 0]) 3 24 Try.underlying26 hiD hzD0 hzD1 hzD2 rfl (by decide) _ _ _ rfl (HC4.out.ol.alloc _) ⟨wc.heap.size,0,none⟩ 1 1 [.int .i64 d.x, .int .i64 d.y, .int .i64 d.c] rfl rfl (gH wc _ [.int .i64 d.x, .int .i64 d.y, .int .i64 d.c] rfl) HO.out H63.out HBY.out HBA.out ?_)
       intro v5 w5 hown hgrow _ hat
       have HC5:=Lib.hid (HC4.out.pushL (d:=d) hown hgrow (by simpa using hat))
       obtain ⟨A5,c5,e5, -, -, -⟩:=wK hown
       subst e5
       clear hown hgrow hat r0 r1 r2 HO H63 HBY HBA
       have H5:=Lib.hid (H2.out.keep HC5.out.bl)
       have q4:=H5.out.b.cell 4
       simp only [zA,zB,zC] at q4
       have p1:=H5.out.bv.cell j
       rw [gO HX.out] at p1
       have HO:Hid (∀u∈([.int .i64 x]:List Value),u.oneCell'=true):=by
        refine Lib.hid ?_
        intro u hu;simp at hu;subst hu;rfl
       have H63:Hid ((asgK val j).length+1≤maxLen):=by refine Lib.hid ?_;unfold maxLen;omega
       have HBY:Hid (((asgK val j).length+1) * 8≤140737488355328):=by refine Lib.hid ?_;omega
       have HBA:Hid (wo.heap.size≤(w5.alloc (.cells #[.int .i64 x] 3)).heap.size):=by
        refine Lib.hid ?_
        have:=HC5.out.bl.size
        simp;omega
       go_wp2_with (at_builtin;refine zV _ rfl _ _ 33 rfl wo.heap.size 3 iI (.int .i64 0) 1 8 Try.underlying33 hiI hzI0 hzI1 hzI2 rfl (by decide) _ _ _ rfl (HC5.out.ox.1.alloc _) ⟨w5.heap.size,0,none⟩ 1 1 [.int .i64 x] rfl rfl (gD w5 _ _) HO.out H63.out HBY.out HBA.out ?_)
       intro v6 w6 hown hgrow _ hat
       have HC6:=Lib.hid (HC5.out.pushX (x:=x) hown (by have:=HV.out.2 j x HX.out;constructor<;>omega) hgrow (by simpa using hat))
       obtain ⟨A6,c6,e6, -, -, -⟩:=wK hown
       subst e6
       clear hown hgrow hat HO H63 HBY HBA p1 q4
       have HKY:Hid (asgK val (j+1)=asgK val j++[x]):=asgK_yes HX.out HX0.out
       go_wp2_with fail
       go_roundw
       case rel=>exact ⟨j+1,ds++[d],by omega,by go_num,by rw [HKY.out];exact oN HBN.out HBD.out,by rw [HKY.out];exact HC6.out⟩
       case measure=>simp [intOf];omega
    ·obtain rfl:j=f.atoms.length:=by omega
     obtain ⟨n,hn⟩:∃n:Nat,f.ints=n:=⟨f.ints.toNat,by have:=HQ.out.i0;omega⟩
     have hi1:=HQ.out.i1
     have HE:Hid (bX n 5 ds):=by
      refine Lib.hid ?_
      intro k e he
      obtain ⟨x,hx⟩:∃x,(asgK val f.atoms.length)[k]? = some x:=⟨_,List.getElem?_eq_getElem (by have:=HDL.out;have:=(zG.1 he).1;omega)⟩
      obtain ⟨d,e1,e2⟩:=lM HBN.out hx
      rw [he] at e1;injection e1 with e1;subst e1
      obtain ⟨⟨h0,hat⟩,hlt⟩:=lP HV.out (List.mem_of_getElem? hx)
      obtain ⟨d,hbd,d1,d2,d3,d4,d5,d6,d7⟩:=eO HQ.out HV.out hat h0 hlt
      rw [e2] at hbd;injection hbd with hbd;subst hbd
      rw [hn] at d2 d4
      exact ⟨d1,d2,d3,d4,d5,by omega,d7⟩
     have HDF:Hid (Diffs wr (.slice Al ds.length cl) ds):=by
      refine Lib.hid (bH HCF.out.ol fun d hd => ?_)
      obtain ⟨k,hk⟩:=qI hd
      obtain ⟨a1,a2,a3,a4,a5,a6,a7⟩:=HE.out k d hk
      refine ⟨?_,?_,?_⟩<;>constructor<;>omega
     have q0:=H3.out.b.cell 0
     simp only [zA,zB] at q0
     rw [hn] at q0
     have HNI:=Lib.hid hn
     have hn6:n≤6:=by omega
     clear hn
     go_wp2_with fail
     refine (ncycle_any n _ ds _ 5 HDF.out HE.out (by omega) (by have:=HDL.out;omega) (by omega) (by omega)).mono ?_
     rintro e w2 ⟨hb2,⟨rfl,sol,hsol⟩|⟨cv2,ks,rfl,hok,hks,hcy,hkl2⟩⟩
     ·have HR2:=Lib.hid (H3.out.keep hb2)
      have HNC:Hid (pY f val):=⟨HALL.out,ds,sol,HBN.out,hsol⟩
      clear hb2 hsol q0
      go_wp2_with fail
      go_ret
      exact .inr ⟨_,_,rfl,HR2.out,HNC.out⟩
     ·have HR2:=Lib.hid (H3.out.keep hb2)
      have HX2:=Lib.hid (HCF.out.keep hb2).ox.ints
      obtain ⟨zs,hz⟩:∃zs:List Int,zs=ks.map fun k:Nat=>(k:Int):=⟨_,rfl⟩
      rw [←hz] at hok
      have hz0:zs.length=ks.length:=by rw [hz];simp
      have hk0:0<ks.length:=by have:=hcy.1;simpa using this
      have hzp:0<zs.length:=by omega
      have hzl:zs.length≤1000:=by omega
      have dz:((zs.length:Int) == 0)=false:=beq_eq_false_iff_ne.2 (by omega)
      have HZ:=Lib.hid hz
      have HZ0:=Lib.hid hz0
      have HKS:=Lib.hid hks
      have HCY:=Lib.hid hcy
      have HC2:=Lib.hid hok.ints
      obtain ⟨Ac,cc,ec, -, -, -⟩:=wK hok.1
      subst ec
      clear hb2 hz hz0 hk0 hks hcy hok hkl2 q0
      go_wp2_with fail
      go_loopw [13,105] (fun o i wr=>∃m:Nat,m≤zs.length∧i = .int .i64 m∧Own wr w2.heap.size o ((ks.take m).map fun k=>(asgK val f.atoms.length).getD k 0)∧Below w2.heap.size w2 wr) (fun _ i _=>zs.length-(intOf i).toNat)
      case atStart=>exact ⟨0,by omega,rfl,⟨zY _ _ _ _,by simp⟩,zL _ _⟩
      case round =>
       obtain ⟨m,hm,rfl,how,hbw⟩:=hrel
       have HO3:=Lib.hid how
       have HB3:=Lib.hid hbw
       have hsz3:=hbw.size
       obtain ⟨Ao,co,eo, -, -, -⟩:=wK how.1
       subst eo
       have hul:((ks.take m).map fun k=>(asgK val f.atoms.length).getD k 0).length=m:=by have:=HZ0.out;simp;omega
       generalize hus:((ks.take m).map fun k=>(asgK val f.atoms.length).getD k 0)=used at *
       have HUS:=Lib.hid hus
       have HUL:=Lib.hid hul
       clear hus hul how hbw
       by_cases hmz:m<zs.length
       ·obtain ⟨kk,hkk⟩:∃kk,ks[m]? = some kk:=⟨_,List.getElem?_eq_getElem (by have:=HZ0.out;omega)⟩
        have hkd:=HKS.out kk (List.mem_of_getElem? hkk)
        have hkx:kk<(asgK val f.atoms.length).length:=by have:=HDL.out;omega
        obtain ⟨x,hx⟩:∃x,(asgK val f.atoms.length)[kk]? = some x:=⟨_,List.getElem?_eq_getElem hkx⟩
        have hzm:zs[m]? = some (kk:Int):=by rw [HZ.out,List.getElem?_map,hkk];rfl
        obtain ⟨A1,c1,e1, -, -, -,hr1⟩:=HC2.out.keep HB3.out
        injection e1 with e1 _ e2
        subst e1 e2
        obtain ⟨b1,o1,rfl,hb1,hc1⟩:=hr1.int hzm
        obtain ⟨A2,c2,e1, -, -, -,hr2⟩:=HX2.out.keep HB3.out
        injection e1 with e1 _ e2
        subst e1 e2
        obtain ⟨b2,o2,rfl,hb2,hc2⟩:=hr2.int hx
        have HI:Hid (I64 x):=Lib.hid (by
         obtain ⟨⟨h0,hat⟩,hlt⟩:=lP HV.out (List.mem_of_getElem? hx)
         have:=HV.out.2 _ x hat
         constructor<;>omega)
        have HUS2:Hid ((ks.take (m+1)).map (fun k=>(asgK val f.atoms.length).getD k 0)=used++[x]):=by
         refine Lib.hid ?_
         rw [wO hkk,List.map_append,HUS.out]
         simp [List.getD_eq_getElem?_getD,hx]
        have HO:Hid (∀u∈([.int .i64 x]:List Value),u.oneCell'=true):=by
         refine Lib.hid ?_
         intro u hu;simp at hu;subst hu;rfl
        have H63:Hid (used.length+1≤maxLen):=by refine Lib.hid ?_;have:=HUL.out;unfold maxLen;omega
        have HBY:Hid ((used.length+1) * 8≤140737488355328):=by refine Lib.hid ?_;have:=HUL.out;omega
        have HBA:Hid (w2.heap.size≤(wr.alloc (.cells #[.int .i64 x] 3)).heap.size):=by
         refine Lib.hid ?_
         simp;omega
        clear hr1 hr2 hkk hx hzm
        go_wp2_with (at_builtin;refine zV _ rfl _ _ 33 rfl w2.heap.size 3 iI (.int .i64 0) 1 8 Try.underlying33 hiI hzI0 hzI1 hzI2 rfl (by decide) _ _ _ rfl (HO3.out.1.alloc _) ⟨wr.heap.size,0,none⟩ 1 1 [.int .i64 x] rfl rfl (gD wr _ _) HO.out H63.out HBY.out HBA.out ?_)
        intro v6 w6 hown hgrow _ hat
        have HO6:Hid (Own w6 w2.heap.size v6 (used++[x])):=by
         refine Lib.hid ⟨by simpa using hown,fun z hz => ?_⟩
         rcases zI.1 hz with hz|hz
         ·exact HO3.out.2 z hz
         ·rw [zH] at hz;subst hz;exact HI.out
        have HB6:Hid (Below w2.heap.size w2 w6):=(HB3.out.alloc HB3.out.size _).grown hgrow (by simp;omega) fun g e=>(HO3.out.1.lt g e).1
        obtain ⟨A6,c6,e6, -, -, -⟩:=wK hown
        subst e6
        clear hown hgrow hat HO H63 HBY HBA hc1 hc2
        go_wp2_with fail
        go_roundw
        case rel=>exact ⟨m+1,by omega,by go_num,by rw [HUS2.out];exact HO6.out,HB6.out⟩
        case measure=>simp [intOf];omega
       ·have hus2:ks.map (fun k=>(asgK val f.atoms.length).getD k 0)=used:=by
         have h:=HUS.out
         rwa [zQ (by have:=HZ0.out;omega)] at h
        have HAS:Hid (∀x∈used,Asm val x ∧ -1000≤x∧x≤1000):=by
         refine Lib.hid ?_
         intro x hx
         rw [←hus2] at hx
         obtain ⟨k,hk,rfl⟩:=List.mem_map.1 hx
         have hkd:=HKS.out k hk
         have hkx:k<(asgK val f.atoms.length).length:=by have:=HDL.out;omega
         rw [List.getD_eq_getElem?_getD,List.getElem?_eq_getElem hkx,yE]
         obtain ⟨hA,hlt⟩:=lP HV.out (yG hkx)
         have:=HV.out.2 _ _ hA.2
         exact ⟨hA,by omega,by omega⟩
        obtain ⟨c,hc,hfc⟩:=norm_neg (fun x hx=>(HAS.out x hx).1) (fun x hx=>(HAS.out x hx).2)
        have HCC:Hid (cyc f.atoms used=some c):=by
         refine Lib.hid ?_
         have hb:=bnds_pick HBN.out HKS.out
         rw [hus2] at hb
         unfold cyc
         rw [hb]
         simp only
         rw [if_pos (cycB_of HCY.out)]
         exact hc
        have HFC:=Lib.hid hfc
        have H5:=Lib.hid (HR2.out.keep HB3.out)
        have q0:=H5.out.b.cell 0
        have q1:=H5.out.b.cell 1
        have q2:=H5.out.b.cell 2
        have q3:=H5.out.b.cell 3
        simp only [zA,zB,zC] at q0 q1 q2 q3
        have hul:used.length≤1000:=by have:=HUL.out;omega
        clear hus2 hc hfc
        have HCALL:Hid _:=Lib.hid (iZ (.int .i64 f.ints) (.int .i64 f.bools) (.slice Aa f.atoms.length ca) (.slice A f.clauses.length cp) _ f.atoms used wr (HFA.out.keep H5.out.bl) HO3.out.ints (fun d hd=>by have h:=HQ.out.at_ d hd;exact ⟨atom_ok h.1 (by have:=HQ.out.i1;omega),by omega,by omega⟩) (by omega) (by omega))
        go_wp2_with fail
        refine HCALL.out.mono ?_
        rintro e w7 ⟨cv7,rfl,ho7,hb7⟩
        rw [HCC.out] at ho7 ⊢
        simp only [yE,xU] at ho7 ⊢
        have H7:=Lib.hid (H5.out.keep hb7)
        have HU7:Hid (IntsO w7 (dC g sv cv) (.slice Ao used.length co) used):=Lib.hid (lN HR2.out (Nat.le_refl _) HO3.out |>.keep hb7)
        have HC7:Hid (IntsO w7 (dC g sv cv) cv7 c):=Lib.hid (lN H5.out (Nat.le_refl _) ho7)
        obtain ⟨A7,c7,e7, -, -, -⟩:=wK ho7.1
        subst e7
        clear ho7 hb7 q0 q1 q2 q3 HCALL
        have HDV:Hid (deriv f ⟨2,0,used,0,0,0⟩ cs=some c):=by
         refine Lib.hid ?_
         unfold deriv
         rw [if_neg (by simp),if_pos rfl]
         exact HCC.out
        have HA:Hid _:=Lib.hid (nJ ⟨2,0,used,0,0,0⟩ Ao A7 co c7 c H7.out HU7.out (by refine ⟨?_,?_,?_,?_,?_⟩<;>constructor<;>simp only<;>omega) HC7.out (by omega) (by omega))
        go_wp2_with fail
        refine HA.out.mono ?_
        rintro e w8 ⟨sv',cv',rfl,h9⟩
        have H9:=Lib.hid h9
        clear h9
        go_wp2_with fail
        go_ret
        exact .inl ⟨_,_,_,_,_,_,rfl,H9.out,HDV.out,HFC.out,hul⟩
end Go.Proofs.Yticieifacalocaa
