/- RefuteAll SameF TapeX -/
import Derived.Test.YticieifacalocaaTSE52
import Derived.Test.YticieifacalocaaTSE49
namespace Go.Proofs.Yticieifacalocaa
open Go.RowKit
def RfRet (w:World) (f:Form) (e:Ending) (w':World):Prop :=
 Below w.heap.size w w'∧((∃v l,e = .returned (.tuple #[v, .agg #[.slice none 0 0, .slice none 0 0], .bool true])∧Stps w' v l∧fT f l∧l.length≤20000∧∀s∈l,s.lits.length≤1000) ∨
  ∃bv iv bs xs,e = .returned (.tuple #[.slice none 0 0, .agg #[bv,iv], .bool false])∧Bools w' bv bs∧Ints w' iv xs∧(bs.length:Int)=f.bools∧(xs.length:Int)=f.ints∧lL f.atoms bs xs∧(∀c∈f.clauses,c.any (holds bs)=true)∧∀x∈xs, -2000000000000≤x∧x≤0)
theorem Good.take {f:Form} {l:List Stp} {cs:List (List Int)} (h:Good f l cs) (k:Nat):Good f (l.take k) (cs.take k):=by
 induction k with
 | zero=>exact Good.nil f
 | succ k ih =>
  by_cases hk:k<l.length
  ·obtain ⟨c,h1,h2⟩:=h.at_ hk
   have e1:l[k]? = some (l.getD k s0):=by rw [List.getD_eq_getElem?_getD,List.getElem?_eq_getElem hk];rfl
   rw [wO e1,wO h1]
   exact ih.snoc h2
  ·have hl:=h.len
   rw [zQ (by omega),zQ (by omega)] at ih ⊢
   exact h
theorem refutes_of {f:Form} {l:List Stp} {cs:List (List Int)} (h:Good f l cs) {k n:Nat} {c:List Int} (hk:cs[k]? = some c) (hf:failsB (List.replicate n 0) c=true):fT f (l.take (k+1)):=by
 have hl:=h.len
 have hlt:=(zG.1 hk).1
 have hn:Nrm c:=h.nrm (List.mem_of_getElem? hk)
 have hlen:(l.take (k+1)).length=k+1:=by rw [qF];omega
 refine ⟨_,h.take (k+1),by omega,?_⟩
 rw [hlen,vH,List.getD_eq_getElem?_getD,qO,if_pos (by omega),hk]
 exact fails_zero hf hn
theorem RI.start (w0:World) (f:Form) (fa fc:Value) (nb:Nat) (h:f.bools=nb):RI w0 ((w0.alloc (.cells (dH (List.replicate nb 0)) 3)).alloc (.cells #[.int .i64 f.ints, .int .i64 (nb:Int),fa,fc, .slice (some ⟨w0.heap.size,0,none⟩) nb nb, .slice none 0 0, .slice none 0 0, .slice none 0 0, .slice none 0 0] 72)).drew (w0.heap.size+1) w0.heap.size f fa fc (.slice none 0 0) (.slice none 0 0) (List.replicate nb 0) [] [] []:=by
 have h1:=Blk.new w0 3 (dH (List.replicate nb 0))
 have h2:=Blk.new (w0.alloc (.cells (dH (List.replicate nb 0)) 3)) 72 #[.int .i64 f.ints, .int .i64 (nb:Int),fa,fc, .slice (some ⟨w0.heap.size,0,none⟩) nb nb, .slice none 0 0, .slice none 0 0, .slice none 0 0, .slice none 0 0]
 have hs:(w0.alloc (.cells (dH (List.replicate nb 0)) 3)).heap.size=w0.heap.size+1:=by simp
 rw [hs] at h2
 refine ⟨⟨?_,(h1.alloc _).drew,OwnStps.nil _ _ _,OwnMat.nil _ _ _,Apart.nil_left _,Nat.le_refl _,by omega,?_,?_⟩,Good.nil f,(fun q hq=>by cases hq),?_,fun i x hx => ?_⟩
 ·rw [h,List.length_replicate];exact h2.drew
 ·simp
 ·exact (((zL _ _).alloc (Nat.le_refl _) _).alloc (by rw [hs];omega) _).drew
 ·simp [h]
 ·left
  rw [List.getElem?_replicate] at hx
  split at hx
  ·injection hx with hx;exact hx.symm
  ·cases hx
theorem Rd.pre {w:World} {A:Option Addr} {xs ys:List Value} (h:Rd w A (xs++ys)):Rd w A xs:=by
 intro h0
 obtain ⟨b,off,h1,h2,h3⟩:=h (by simp;omega)
 exact ⟨b,off,h1,h2,fun j u hu=>h3 j u (by rw [zP (zG.1 hu).1];exact hu)⟩
theorem Stps.take {w:World} {A:Option Addr} {n c:Nat} {l:List Stp} (h:Stps w (.slice A n c) l) {k:Nat} (hk:k≤n):Stps w (.slice A k c) (l.take k):=by
 obtain ⟨A',c',ps,h1,h2,h3,h4,h5,h6⟩:=h
 injection h2 with e1 e2 e3
 subst e1 e3
 refine ⟨A,c,ps.take k,by rw [h1,uP],by rw [qF,yF (by omega)],by rw [qF];omega,h4,?_,fun p hp=>h6 p (zO hp)⟩
 have e:ps.flatMap Stp.cells=(ps.take k).flatMap Stp.cells++(ps.drop k).flatMap Stp.cells:=by rw [←uB,xJ]
 rw [e] at h5
 exact h5.pre
theorem edges_asg {f:Form} {val:List Int} {ds:List Diff} {n:Nat} (hq:SmallQ f) (hv:OkV f val) (hb:bB f.atoms (asg f val)=some ds) (hn:f.ints=n):bX n 5 ds:=by
 intro k e he
 have hdl:=eH hb
 obtain ⟨x,hx⟩:∃x,(asg f val)[k]? = some x:=⟨_,List.getElem?_eq_getElem (by have:=(zG.1 he).1;omega)⟩
 obtain ⟨d,e1,e2⟩:=lM hb hx
 rw [he] at e1;injection e1 with e1;subst e1
 obtain ⟨⟨h0,hat⟩,hlt⟩:=lP hv (List.mem_of_getElem? hx)
 obtain ⟨d,hbd,d1,d2,d3,d4,d5,d6,d7⟩:=eO hq hv hat h0 hlt
 rw [e2] at hbd;injection hbd with hbd;subst hbd
 rw [hn] at d2 d4
 exact ⟨d1,d2,d3,d4,d5,by omega,d7⟩
theorem tH {f:Form} {val:List Int} (hn:∀x∈val,x≠0):asg f val=val.take f.atoms.length:=by
 unfold asg asgK
 rw [xP]
 intro x hx
 simpa using hn x (zO hx)
theorem fits_of {f:Form} {val xs:List Int} {ds:List Diff} (hq:SmallQ f) (hv:OkV f val) (hn:∀x∈val,x≠0) (hb:bB f.atoms (val.take f.atoms.length)=some ds) (hs:∀d∈ds,gi xs d.x≤gi xs d.y+d.c):lL f.atoms (aR val) xs:=by
 intro i d hd
 have hi:=(zG.1 hd).1
 have hal:=hq.al
 have hvl:=hv.1
 have hiv:i<val.length:=by omega
 have hx:val[i]? = some val[i]:=List.getElem?_eq_getElem hiv
 obtain ⟨e,h1,h2⟩:=lM hb (show (val.take f.atoms.length)[i]? = some val[i] by rw [qO,if_pos hi];exact hx)
 have hse:=hs e (List.mem_of_getElem? h1)
 have h0:=hn _ (yG hiv)
 rw [aR,List.getElem?_map,hx,kO]
 refine congrArg some ?_
 rcases hv.2 i _ hx with h|h|h
 ·exact absurd h h0
 ·rw [h,bJ,hd] at h2
  injection h2 with h2
  subst h2
  rw [h,jD,vI,vI]
  omega
 ·rw [h,bL,hd] at h2
  injection h2 with h2
  subst h2
  simp only [Diff.opp] at hse
  rw [h,jD,vI,vI]
  omega
structure MS (w1 wr:World) (nb gb gm:Nat) (bs:List Bool) (lv:Value) (ds:List Diff):Prop where
 b:Blk wr gb 4 (eQ bs)
 m:Blk wr gm 35 #[.slice (some ⟨gb,0,none⟩) nb nb, .slice none 0 0]
 ol:wr.ownsRow (gm+1) 50 3 lv ds.length (ds.flatMap Diff.cells)
 lo:w1.heap.size≤gb
 lt:gb<gm
 hi:gm+1≤wr.heap.size
 bl:Below w1.heap.size w1 wr
section
variable {w1 wr w':World} {nb gb gm:Nat} {bs:List Bool} {lv:Value} {ds:List Diff}
theorem MS.start (w1:World) (nb:Nat):MS w1 ((w1.alloc (.cells (eQ (List.replicate nb false)) 4)).alloc (.cells #[.slice (some ⟨w1.heap.size,0,none⟩) nb nb, .slice none 0 0] 35)) nb w1.heap.size (w1.heap.size+1) (List.replicate nb false) (.slice none 0 0) []:=by
 have h2:=Blk.new (w1.alloc (.cells (eQ (List.replicate nb false)) 4)) 35 #[.slice (some ⟨w1.heap.size,0,none⟩) nb nb, .slice none 0 0]
 have hs:(w1.alloc (.cells (eQ (List.replicate nb false)) 4)).heap.size=w1.heap.size+1:=by simp
 rw [hs] at h2
 exact ⟨(Blk.new _ _ _).alloc _,h2,zY _ _ _ _,Nat.le_refl _,by omega,by simp,((zL _ _).alloc (Nat.le_refl _) _).alloc (by rw [hs];omega) _⟩
theorem MS.keep (h:MS w1 wr nb gb gm bs lv ds) (hb:Below wr.heap.size wr w'):MS w1 w' nb gb gm bs lv ds:=⟨h.b.keep hb,h.m.keep hb,dQ h.ol hb,h.lo,h.lt,zZ h.hi hb.size,h.bl.trans (hb.mono h.bl.size)⟩
theorem MS.setB (h:MS w1 wr nb gb gm bs lv ds) (k:Nat) (a:Bool):MS w1 (wr.setCell ⟨gb,k,none⟩ (.bool a)) nb gb gm (bs.set k a) lv ds:=by
 have hset:wr.grownBy (wr.setCell ⟨gb,k,none⟩ (.bool a)) (some gb):=wJ _ _ _ _
 have hlt:=h.lt
 refine ⟨h.b.setB k a,h.m.grown hset (by simp;omega),h.ol.kept hset (dM h.ol (by omega)),h.lo,h.lt,by simpa using h.hi,h.bl.grown hset h.bl.size fun g e=>by injection e with e;have:=h.lo;omega⟩
theorem MS.push {lv':Value} {d:Diff} {o:Obj} (h:MS w1 wr nb gb gm bs lv ds) (ho:w'.ownsRow (gm+1) 50 3 lv' (ds.length+1) (ds.flatMap Diff.cells++d.cells)) (hg:(wr.alloc o).grownBy w' lv.ownBlock):MS w1 w' nb gb gm bs lv' (ds++[d]):=by
 have hlt:∀k,lv.ownBlock=some k→gm+1≤k∧k<wr.heap.size:=fun k e=>h.ol.lt k e
 have hl:=h.lt
 have hlo:=h.lo
 refine ⟨(h.b.alloc o).grown hg fun e=>by have:=hlt _ e.symm;omega,(h.m.alloc o).grown hg fun e=>by have:=hlt _ e.symm;omega,by simpa using ho,h.lo,h.lt,?_,(h.bl.alloc h.bl.size o).grown hg (by have:=h.bl.size;simp;omega) fun k e=>by have:=hlt k e;omega⟩
 have h1:=hg.size;have h2:=h.hi;simp at h1;omega
end
set_option maxRecDepth 100000 in
set_option maxHeartbeats 4000000 in
theorem oB (fv:Value) (f:Form) (w:World) (hf:IsForm w fv f) (hq:SmallQ f) (hb:f.bools≤10) :
  Calls Try.prog 16 #[fv] w (RfRet w f):=by
 have HF:=Lib.hid hf
 have HQ:=Lib.hid hq
 obtain ⟨av,cv,rfl,hi,hbo,ha,hc⟩:=hf
 have HA:=Lib.hid ha
 have HC:=Lib.hid hc
 obtain ⟨Aa,ca,rfl, -, -, -, -⟩:=ha
 obtain ⟨Ac,cc,vs,rfl, -, -, -, -, -⟩:=hc
 obtain ⟨nb,hnb⟩:∃nb:Nat,f.bools=nb:=⟨f.bools.toNat,by have:=hq.al;omega⟩
 have HNB:=Lib.hid hnb
 have hnb10:nb≤10:=by omega
 have mk:=lQ nb (by omega)
 clear hq hi hbo
 rw [hnb]
 clear hnb hb
 go_enter Try.func16,Try.ntmps16
 go_wp2_with fail
 go_region
 obtain ⟨w0,hw0⟩:∃w0:World,w0=(w.alloc (.cells #[.int .i64 f.ints, .int .i64 (nb:Int), .slice Aa f.atoms.length ca, .slice Ac f.clauses.length cc] 29)).alloc (.cells #[.slice none 0 0, .slice none 0 0] 35):=⟨_,rfl⟩
 have hs:w0.heap.size=w.heap.size+1+1:=by rw [hw0];simp
 have hbl0:Below w.heap.size w w0:=by rw [hw0];exact ((zL _ _).alloc (Nat.le_refl _) _).alloc (by simp) _
 have B1:Blk w0 w.heap.size 29 #[.int .i64 f.ints, .int .i64 (nb:Int), .slice Aa f.atoms.length ca, .slice Ac f.clauses.length cc]:=by rw [hw0];exact (Blk.new _ _ _).alloc _
 have B2:Blk w0 (w.heap.size+1) 35 #[.slice none 0 0, .slice none 0 0]:=by
  have h:=Blk.new (w.alloc (.cells #[.int .i64 f.ints, .int .i64 (nb:Int), .slice Aa f.atoms.length ca, .slice Ac f.clauses.length cc] 29)) 35 #[.slice none 0 0, .slice none 0 0]
  rw [show (w.alloc (.cells #[.int .i64 f.ints, .int .i64 (nb:Int), .slice Aa f.atoms.length ca, .slice Ac f.clauses.length cc] 29)).heap.size=w.heap.size+1 by simp] at h
  rw [hw0];exact h
 have HRI:=Lib.hid (RI.start w0 f (.slice Aa f.atoms.length ca) (.slice Ac f.clauses.length cc) nb HNB.out)
 rw [hs] at HRI
 rw [←hw0]
 generalize ((w0.alloc (.cells (dH (List.replicate nb 0)) 3)).alloc (.cells #[.int .i64 f.ints, .int .i64 (nb:Int), .slice Aa f.atoms.length ca, .slice Ac f.clauses.length cc, .slice (some ⟨w.heap.size+1+1,0,none⟩) nb nb, .slice none 0 0, .slice none 0 0, .slice none 0 0, .slice none 0 0] 72)).drew=W at *
 have HS:=Lib.hid hs
 have HB0:=Lib.hid hbl0
 have HB1:=Lib.hid B1
 have HB2:=Lib.hid B2
 clear hw0 hs hbl0 B1 B2 mk
 have HCALL:=Lib.hid (refute_any HQ.out (HA.out.keep HB0.out) (HC.out.keep HB0.out) nb W _ _ _ _ _ _ HRI.out (by simp [free]) hnb10 (by have:2 ^ (nb+1)≤2 ^ 11:=kY (by omega) (by omega);simp;omega))
 go_wp2_with fail
 refine HCALL.out.mono ?_
 rintro e w1 (⟨k,c,sv1,cv1,ps1,us1,cs1,rfl,hri,hlen,hpre,hck,hfl⟩|⟨val1,sv1,cv1,ps1,us1,cs1,rfl,hri,hnz,hnc⟩)
 ·have HB3:=Lib.hid (HB2.out.below hri.r.bl (by rw [HS.out];omega))
  have q5:=hri.r.b.cell 5
  simp only [zA,zB,zC] at q5
  have HOS:=Lib.hid hri.r.os
  have HREF:=Lib.hid (refutes_of hri.good hck hfl)
  have HBL:Hid (Below w.heap.size w w1):=Lib.hid (HB0.out.trans (hri.r.bl.mono HB0.out.size))
  have HSM:=Lib.hid hri.sml
  obtain ⟨As,cps,es,hs1,hs2, -⟩:=wK hri.r.os.1
  subst es
  unfold maxLen at hs2
  have hl:=hri.lens
  have hkl:=(zG.1 hck).1
  have hlen2:ps1.length≤20000:=by have:2 ^ (nb+1)≤2 ^ 11:=kY (by omega) (by omega);simp at hlen;omega
  have hkp:k+1≤ps1.length:=by omega
  have t0:=HB3.out.cell 0
  have t1:=HB3.out.cell 1
  have f0:=HB3.out.frozen 0
  have f1:=HB3.out.frozen 1
  simp only [zA,zB,zC] at t0 t1
  clear hri hlen hpre hck hfl hl hkl HCALL HRI
  go_wp2_with fail
  have hset:w1.grownBy ((w1.setCell ⟨w.heap.size+1,0,none⟩ (.slice none 0 0)).setCell ⟨w.heap.size+1,1,none⟩ (.slice none 0 0)) (some (w.heap.size+1)):=gK (wJ _ _ _ _) (wJ _ _ _ _)
  refine xM (v := .tuple #[.slice As (k+1) cps, .agg #[.slice none 0 0, .slice none 0 0], .bool true]) (by simp [results,Try.results16,go_sem,t0,t1]) rfl ⟨HBL.out.grown hset HBL.out.size (fun g e=>by injection e with e;omega), .inl ⟨_,_,rfl,Stps.take (k:=k+1) (HOS.out.grown hset (dM HOS.out.1 (by omega)) fun b hb=>by simp;omega).stps hkp,HREF.out,by rw [qF];simp;omega,fun s hs => ?_⟩⟩
  obtain ⟨q,hq,rfl⟩:=List.mem_map.1 (zO hs)
  exact HSM.out q hq
 ·have HB3:=Lib.hid (HB2.out.below hri.r.bl (by rw [HS.out];omega))
  have HB4:=Lib.hid (HB1.out.below hri.r.bl (by rw [HS.out];omega))
  have q4:=hri.r.b.cell 4
  have t1:=HB4.out.cell 1
  simp only [zA,zB,zC] at q4 t1
  have HR:=Lib.hid hri
  have HNZ:=Lib.hid hnz
  have HNC:=Lib.hid hnc
  have HBL:Hid (Below w.heap.size w w1):=Lib.hid (HB0.out.trans (hri.r.bl.mono HB0.out.size))
  have hvl:val1.length=nb:=by have:=hri.ok.1;rw [HNB.out] at this;omega
  have HVL:=Lib.hid hvl
  rw [hvl] at q4
  have mkb:=mk_bools nb (by omega)
  have HMS:=Lib.hid (MS.start w1 nb)
  clear hri hnz hnc hvl HCALL HRI q4
  go_upto_region 7 with fail
  generalize (w1.alloc (.cells (eQ (List.replicate nb false)) 4)).alloc (.cells #[.slice (some ⟨w1.heap.size,0,none⟩) nb nb, .slice none 0 0] 35)=W2 at *
  have q4:=(HR.out.keep HMS.out.bl).r.b.cell 4
  simp only [zA,zB,zC] at q4
  rw [HVL.out] at q4
  obtain ⟨iD,hiD,hzD0,hzD1,hzD2⟩:=qC aD
  obtain ⟨gb,hgb⟩:∃gb,gb=w1.heap.size:=⟨_,rfl⟩
  rw [←hgb] at HMS ⊢
  obtain ⟨gm,hgm⟩:∃gm,gm=gb+1:=⟨_,rfl⟩
  rw [←hgm] at HMS ⊢
  clear hgb hgm mkb t1
  go_wp2_with fail
  clear q4
  go_loopw [8,40] (fun lv i wr=>∃(k:Nat) (ds:List Diff),k≤nb∧i = .int .i64 k∧bB f.atoms (val1.take (min k f.atoms.length))=some ds∧MS w1 wr nb gb gm (lO false nb ((aR val1).take k)) lv ds) (fun _ i _=>nb-(intOf i).toNat)
  case atStart=>exact ⟨0,[],by omega,rfl,by simp [bB],by simpa [lO] using HMS.out⟩
  case round =>
   obtain ⟨k,ds,hk,rfl,hbn,hms⟩:=hrel
   have HBN:=Lib.hid hbn
   have HM:=Lib.hid hms
   have HDL:=Lib.hid (eH hbn)
   have hdl:ds.length≤nb:=by rw [eH hbn,qF,HVL.out];omega
   obtain ⟨Al,cl,el, -, -, -⟩:=wK hms.ol
   subst el
   clear hbn hms HMS
   by_cases hkn:k<nb
   ·obtain ⟨x,hx⟩:∃x,val1[k]? = some x:=⟨_,List.getElem?_eq_getElem (by have:=HVL.out;omega)⟩
    have p1:=(HR.out.keep HM.out.bl).r.bv.cell k
    rw [gO hx] at p1
    have HX:=Lib.hid hx
    have m0:=HM.out.m.cell 0
    simp only [zA,zB] at m0
    have hml:((aR val1).take k).length=k:=by rw [qF];have:=HVL.out;simp [aR];omega
    have b1:=HM.out.b.cell k
    have z1:=HM.out.b.frozen k
    rw [rowB_at (pad_at hkn (by omega))] at b1
    have HSET:Hid ((lO false nb ((aR val1).take k)).set k (decide (0<x))=lO false nb ((aR val1).take (k+1))):=by
     refine Lib.hid ?_
     rw [pA (by omega) hml,wO (x:=decide (0<x)) (by rw [aR,List.getElem?_map,HX.out];rfl)]
    have HM2:=Lib.hid (HM.out.setB k (decide (0<x)))
    rw [HSET.out] at HM2
    clear hx hml HSET
    go_upto_region 11 with fail
    generalize wr.setCell ⟨gb,k,none⟩ (.bool (decide (0<x)))=W3 at *
    clear p1 m0 b1 z1
    have HB5:=Lib.hid (HB4.out.below HM2.out.bl HB4.out.lt)
    have t0:=HB5.out.cell 0
    have t1:=HB5.out.cell 1
    have t2:=HB5.out.cell 2
    have t3:=HB5.out.cell 3
    simp only [zA,zB,zC] at t0 t1 t2 t3
    have HOV:=Lib.hid (HR.out.ok.2 k x HX.out)
    have HX0:=Lib.hid (HNZ.out x (List.mem_of_getElem? HX.out))
    have HCALL:=Lib.hid (eZ (.int .i64 f.ints) (.int .i64 (nb:Int)) (.slice Aa f.atoms.length ca) (.slice Ac f.clauses.length cc) f.atoms W3 x ((HA.out.keep HBL.out).keep HM2.out.bl) (fun d hd=>by have:=(HQ.out.at_ d hd).2.1;omega) (by have:=HOV.out;constructor<;>omega))
    go_wp2_with fail
    refine HCALL.out.mono ?_
    rintro e w4 ⟨rfl,hb4⟩
    have HM4:=Lib.hid (HM2.out.keep hb4)
    clear hb4 t0 t1 t2 t3 HCALL
    by_cases hka:k<f.atoms.length
    ·obtain ⟨d,hbd,d1,d2,d3,d4,d5,d6,d7⟩:=eO HQ.out HR.out.ok HX.out HX0.out hka
     rw [hbd]
     rw [show boundVal (some d) = .tuple #[.agg #[.int .i64 d.x, .int .i64 d.y, .int .i64 d.c], .bool true] from rfl]
     have HBD:=Lib.hid hbd
     have HM5:Hid (MS w1 (w4.alloc (.cells #[.int .i64 d.x, .int .i64 d.y, .int .i64 d.c] 50)) nb gb gm (lO false nb ((aR val1).take (k+1))) (.slice Al ds.length cl) ds):=HM4.out.keep ((zL _ _).alloc (Nat.le_refl _) _)
     have HO:Hid (∀u∈([.int .i64 d.x, .int .i64 d.y, .int .i64 d.c]:List Value),u.oneCell'=true):=by
      refine Lib.hid ?_
      intro u hu;simp at hu;rcases hu with rfl|rfl|rfl<;>rfl
     have H63:Hid (ds.length+1≤maxLen):=by refine Lib.hid ?_;unfold maxLen;omega
     have HBY:Hid ((ds.length+1) * 24≤140737488355328):=by refine Lib.hid ?_;omega
     have HBA:Hid (gm+1≤((w4.alloc (.cells #[.int .i64 d.x, .int .i64 d.y, .int .i64 d.c] 50)).alloc (.cells #[.int .i64 d.x, .int .i64 d.y, .int .i64 d.c] 50)).heap.size):=by
      refine Lib.hid ?_
      have:=HM4.out.hi
      simp;omega
     clear hbd
     go_wp2_with (at_builtin;refine zV _ rfl _ _ 26 rfl (gm+1) 50 iD (.agg #[.int .i64 0, .int .i64 0, .int .i64 0]) 3 24 Try.underlying26 hiD hzD0 hzD1 hzD2 rfl (by decide) _ _ _ rfl (HM5.out.ol.alloc _) ⟨w4.heap.size+1,0,none⟩ 1 1 [.int .i64 d.x, .int .i64 d.y, .int .i64 d.c] rfl rfl (gH (w4.alloc (.cells #[.int .i64 d.x, .int .i64 d.y, .int .i64 d.c] 50)) _ [.int .i64 d.x, .int .i64 d.y, .int .i64 d.c] (by simp)) HO.out H63.out HBY.out HBA.out ?_)
     intro v6 w6 hown hgrow _ hat
     have HM6:=Lib.hid (HM5.out.push (d:=d) hown hgrow)
     obtain ⟨A6,c6,e6, -, -, -⟩:=wK hown
     subst e6
     clear hown hgrow hat HO H63 HBY HBA
     have HBN2:Hid (bB f.atoms (val1.take (min (k+1) f.atoms.length))=some (ds++[d])):=by
      refine Lib.hid ?_
      have h:=HBN.out
      rw [yF (by omega)] at h ⊢
      rw [wO HX.out]
      exact oN h HBD.out
     go_wp2_with fail
     go_roundw
     case rel=>exact ⟨k+1,ds++[d],by omega,by go_num,HBN2.out,HM6.out⟩
     case measure=>simp [intOf];omega
    ·have hbd:bound f.atoms x=none:=by
      rcases HOV.out with h|h|h
      ·exact absurd h HX0.out
      ·rw [h,bJ,List.getElem?_eq_none (by omega)]
      ·rw [h,bL,List.getElem?_eq_none (by omega)];rfl
     rw [hbd]
     rw [show boundVal none = .tuple #[.agg #[.int .i64 0, .int .i64 0, .int .i64 0], .bool false] from rfl]
     clear hbd
     have HBN2:Hid (bB f.atoms (val1.take (min (k+1) f.atoms.length))=some ds):=by
      refine Lib.hid ?_
      have h:=HBN.out
      rw [uT (by omega)] at h ⊢
      exact h
     have HM6:=Lib.hid (HM4.out.keep (w':=w4.alloc (.cells #[.int .i64 0, .int .i64 0, .int .i64 0] 50)) ((zL _ _).alloc (Nat.le_refl _) _))
     go_wp2_with fail
     go_roundw
     case rel=>exact ⟨k+1,ds,by omega,by go_num,HBN2.out,HM6.out⟩
     case measure=>simp [intOf];omega
   ·have hal:f.atoms.length≤nb:=by have:=HQ.out.al;have:=HNB.out;omega
    have hbn2:bB f.atoms (val1.take f.atoms.length)=some ds:=by
     have h:=HBN.out
     rwa [uT (by omega)] at h
    have HBN2:=Lib.hid hbn2
    obtain ⟨n,hn⟩:∃n:Nat,f.ints=n:=⟨f.ints.toNat,by have:=HQ.out.i0;omega⟩
    have HNI:=Lib.hid hn
    have hn6:n≤6:=by have:=HQ.out.i1;omega
    have HE:Hid (bX n 5 ds):=Lib.hid (edges_asg HQ.out HR.out.ok (by rw [tH HNZ.out];exact hbn2) hn)
    have HM2:Hid (MS w1 wr nb gb gm (aR val1) (.slice Al ds.length cl) ds):=by
     refine Lib.hid ?_
     have h:=HM.out
     rwa [zQ (by have:=HVL.out;simp [aR];omega),nI (by simpa [aR] using HVL.out)] at h
    have HDF:Hid (Diffs wr (.slice Al ds.length cl) ds):=by
     refine Lib.hid (bH HM.out.ol fun d hd => ?_)
     obtain ⟨k,hk⟩:=qI hd
     obtain ⟨a1,a2,a3,a4,a5,a6,a7⟩:=HE.out k d hk
     refine ⟨?_,?_,?_⟩<;>constructor<;>omega
    have HSOL:Hid (∃X:Int→Int,∀d∈ds,X d.x≤X d.y+d.c):=by
     refine Lib.hid ?_
     obtain ⟨l,sol,h1,h2⟩:=HNC.out.2
     rw [tH HNZ.out,hbn2] at h1
     injection h1 with h1
     subst h1
     exact ⟨gi sol,h2⟩
    have HB5:=Lib.hid (HB4.out.below HM.out.bl HB4.out.lt)
    have t0:=HB5.out.cell 0
    simp only [zA,zB] at t0
    rw [hn] at t0
    clear hbn2 hn
    have HCALL:=Lib.hid (pH n _ ds wr 5 HDF.out HE.out (by omega) (by omega) (by omega) (by omega) HSOL.out)
    go_wp2_with fail
    refine HCALL.out.mono ?_
    rintro e w5 ⟨gx,xs,rfl,hgx,hlx,hxl,hsol,hsm,hb5⟩
    have HM5:=Lib.hid (HM2.out.keep hb5)
    have HGX:=Lib.hid hgx
    have HSL:=Lib.hid hsol
    have HSM:=Lib.hid hsm
    have HXL:=Lib.hid hxl
    have m1:=HM5.out.m.cell 1
    have z1:=HM5.out.m.frozen 1
    simp only [zA,zB,zC] at m1
    have hgm:gm<wr.heap.size:=HM2.out.m.lt
    clear hgx hsol hsm hxl hb5 t0 HCALL
    go_upto_region 16 with fail
    have hlo:=HM5.out.lo
    have hlt:=HM5.out.lt
    have hw1:w.heap.size+1<w1.heap.size:=HB3.out.lt
    have hset1:w5.grownBy (w5.setCell ⟨gm,1,none⟩ (.slice (some ⟨gx,0,none⟩) n n)) (some gm):=wJ _ _ _ _
    have M6:Blk (w5.setCell ⟨gm,1,none⟩ (.slice (some ⟨gx,0,none⟩) n n)) gm 35 #[.slice (some ⟨gb,0,none⟩) nb nb, .slice (some ⟨gx,0,none⟩) n n]:=HM5.out.m.set_ 1 _
    have R6:=(HB3.out.below HM5.out.bl HB3.out.lt).grown hset1 (by simp;omega)
    have HB6:=Lib.hid (HM5.out.b.grown hset1 (by simp;omega))
    have HX6:=Lib.hid (HGX.out.grown hset1 (by simp;omega))
    have HW6:Hid (Below w.heap.size w (w5.setCell ⟨gm,1,none⟩ (.slice (some ⟨gx,0,none⟩) n n))):=Lib.hid ((HBL.out.trans (HM5.out.bl.mono HBL.out.size)).grown hset1 ((HBL.out.trans (HM5.out.bl.mono HBL.out.size)).size) fun g e=>by injection e with e;omega)
    generalize w5.setCell ⟨gm,1,none⟩ (.slice (some ⟨gx,0,none⟩) n n)=W6 at *
    have a0:=M6.cell 0
    have a1:=M6.cell 1
    have b0:=R6.cell 0
    have b1:=R6.cell 1
    have z0:=R6.frozen 0
    have z2:=R6.frozen 1
    simp only [zA,zB,zC] at a0 a1 b0 b1
    have hgbl:=HB6.out.lt
    have hgxl:=HX6.out.lt
    clear M6 R6 hset1 m1 z1
    have ne1:gm≠w.heap.size+1:=by omega
    go_region
    have hset2:W6.grownBy ((W6.setCell ⟨w.heap.size+1,0,none⟩ (.slice (some ⟨gb,0,none⟩) nb nb)).setCell ⟨w.heap.size+1,1,none⟩ (.slice (some ⟨gx,0,none⟩) n n)).drew (some (w.heap.size+1)):=gK (gK (wJ _ _ _ _) (wJ _ _ _ _)) (rC _ _)
    have HB7:=Lib.hid (HB6.out.grown hset2 (by simp;omega))
    have HX7:=Lib.hid (HX6.out.grown hset2 (by simp;omega))
    have HW7:=Lib.hid (HW6.out.grown hset2 HW6.out.size fun g e=>by injection e with e;omega)
    clear a0 a1 z0 z2 hset2
    go_wp2_with fail
    have HFT:=Lib.hid (fits_of HQ.out HR.out.ok HNZ.out HBN2.out HSL.out)
    have hml:(aR val1).length=nb:=by simpa [aR] using HVL.out
    have hxl:=HXL.out
    have hB:=Blk.bools HB7.out (by unfold maxLen;omega)
    have hX:=Blk.ints HX7.out (fun x hx=>by have:=HSM.out x hx;constructor<;>omega) (by unfold maxLen;omega)
    rw [hml] at hB
    rw [hxl] at hX
    refine xM (v := .tuple #[.slice none 0 0, .agg #[.slice (some ⟨gb,0,none⟩) nb nb, .slice (some ⟨gx,0,none⟩) n n], .bool false]) (by simp [results,Try.results16,go_sem,b0,b1]) rfl ⟨HW7.out, .inr ⟨_,_,_,_,rfl,hB,hX,?_,?_,HFT.out,fun c hc=>mdl_clause HQ.out HR.out.ok HNZ.out HNC.out hc,HSM.out⟩⟩
    ·rw [hml,HNB.out]
    ·rw [hxl,HNI.out]
theorem SmallF.ten {a b c:Int} {f:Form} (h:SmallF (a % 3) (b % 6) (c % 5) f):f.bools≤10:=by
 obtain ⟨h1,h2,h3,_⟩:=h
 omega
set_option maxRecDepth 100000 in
set_option maxHeartbeats 4000000 in
theorem samef_any (a b:Value) (f:Form) (w:World) (ha:IsForm w a f) (hb:IsForm w b f) :
  Calls Try.prog 19 #[a,b] w fun e w'=>e = .returned (.bool true)∧Below w.heap.size w w':=by
 obtain ⟨av,cv,rfl,hI,hB,hD,hM⟩:=ha
 obtain ⟨av2,cv2,rfl, -, -,hD2,hM2⟩:=hb
 obtain ⟨A,c,rfl,a1,a2,a3,hr⟩:=hD
 obtain ⟨A2,c2,rfl,a4,a5, -,hr2⟩:=hD2
 obtain ⟨C,cc,vs,rfl,m1,m2,m3,hcr,hci⟩:=hM
 obtain ⟨C2,cc2,vs2,rfl,m4,m5,m6,hcr2,hci2⟩:=hM2
 unfold maxLen at a2 a5 m2 m5
 have HF1:=Lib.hid (Blk.new w 29 #[.int .i64 f.ints, .int .i64 f.bools, .slice A f.atoms.length c, .slice C f.clauses.length cc])
 have HF1':=Lib.hid (HF1.out.alloc (.cells #[.int .i64 f.ints, .int .i64 f.bools, .slice A2 f.atoms.length c2, .slice C2 f.clauses.length cc2] 29))
 have hF2:=Blk.new (w.alloc (.cells #[.int .i64 f.ints, .int .i64 f.bools, .slice A f.atoms.length c, .slice C f.clauses.length cc] 29)) 29 #[.int .i64 f.ints, .int .i64 f.bools, .slice A2 f.atoms.length c2, .slice C2 f.clauses.length cc2]
 rw [show ∀(a:World) (o:Obj),(a.alloc o).heap.size=a.heap.size+1 from fun a o=>by simp] at hF2
 have hb2:Below w.heap.size w ((w.alloc (.cells #[.int .i64 f.ints, .int .i64 f.bools, .slice A f.atoms.length c, .slice C f.clauses.length cc] 29)).alloc (.cells #[.int .i64 f.ints, .int .i64 f.bools, .slice A2 f.atoms.length c2, .slice C2 f.clauses.length cc2] 29)):=by go_grown
 have HF2:=Lib.hid hF2
 have HBB:=Lib.hid hb2
 have HR1:=Lib.hid hr
 have HR2:=Lib.hid hr2
 have HC1:=Lib.hid hcr
 have HC2:=Lib.hid hcr2
 have HX1:=Lib.hid hci
 have HX2:=Lib.hid hci2
 clear hr hr2 hcr hcr2 hci hci2 hF2 hb2 HF1
 go_enter Try.func19,Try.ntmps19
 go_wp2_with fail
 generalize (w.alloc (.cells #[.int .i64 f.ints, .int .i64 f.bools, .slice A f.atoms.length c, .slice C f.clauses.length cc] 29)).alloc (.cells #[.int .i64 f.ints, .int .i64 f.bools, .slice A2 f.atoms.length c2, .slice C2 f.clauses.length cc2] 29)=W at *
 have p2:=HF1'.out.cell 2
 have p3:=HF1'.out.cell 3
 have q2:=HF2.out.cell 2
 have q3:=HF2.out.cell 3
 simp only [zA,zB,zC] at p2 p3 q2 q3
 go_loopw [40] (fun i wr=>∃k n,k≤f.atoms.length∧i = .int .i64 (k:Nat)∧wr=W.drewN n) (fun i _=>f.atoms.length-(intOf i).toNat)
 case atStart=>exact ⟨0,0,by omega,rfl,rfl⟩
 case round =>
  obtain ⟨k,n,hk,rfl,rfl⟩:=hrel
  by_cases hlt:k<f.atoms.length
  ·obtain ⟨d,hdk⟩:∃d,f.atoms[k]? = some d:=⟨_,List.getElem?_eq_getElem hlt⟩
   obtain ⟨b1,o1,rfl,l1,x1,y1,z1⟩:=(HR1.out.keep HBB.out).diff hdk
   obtain ⟨b2,o2,rfl,l2,x2,y2,z2⟩:=(HR2.out.keep HBB.out).diff hdk
   go_wp2_with fail
   go_quiet (fail)
   go_wp2_with fail
   go_roundw
   case rel=>exact ⟨k+1,_,by omega,by go_num,rfl⟩
   case measure=>simp [intOf];omega
  ·go_wp2_with fail
   go_loopw [58] (fun i wr=>∃j w1,j≤f.clauses.length∧i = .int .i64 (j:Nat)∧wr=w1∧Below W.heap.size W w1) (fun i _=>f.clauses.length-(intOf i).toNat)
   case atStart=>exact ⟨0,_,by omega,rfl,rfl,bC (zL _ _) _⟩
   case round =>
    obtain ⟨j,w1,hj,rfl,rfl,hb1⟩:=hrel
    have HB1:=Lib.hid hb1
    have HBW:=Lib.hid (HBB.out.trans (hb1.mono HBB.out.size))
    have g2:=((HF1'.out.keep hb1).cell 2)
    have g3:=((HF1'.out.keep hb1).cell 3)
    have k2:=((HF2.out.keep hb1).cell 2)
    have k3:=((HF2.out.keep hb1).cell 3)
    simp only [zA,zB,zC] at g2 g3 k2 k3
    clear hb1 p2 p3 q2 q3
    by_cases hjl:j<f.clauses.length
    ·obtain ⟨xs,hxs⟩:∃xs,f.clauses[j]? = some xs:=⟨_,List.getElem?_eq_getElem hjl⟩
     obtain ⟨b1,o1,A',c',rfl,l1,x1,i1⟩:=Mat.at_ (HC1.out.keep HBW.out) m3 (fun k u xs h1 h2=>(HX1.out k u xs h1 h2).keep HBW.out) hxs
     obtain ⟨b2,o2,A'',c'',rfl,l2,x2,i2⟩:=Mat.at_ (HC2.out.keep HBW.out) m6 (fun k u xs h1 h2=>(HX2.out k u xs h1 h2).keep HBW.out) hxs
     have HI:=Lib.hid i1
     have HI':=Lib.hid i2
     have HT:Hid (decide (xs=xs)=true):=by refine Lib.hid ?_;simp
     have HS:Hid (∀n,Calls Try.prog 27 #[.slice A' xs.length c', .slice A'' xs.length c''] (wr.drewN n) fun e w'=>e = .returned (.bool true)∧∃m,w'=(wr.drewN n).drewN m):=fun n=>by
      have h:=tG (.slice A' xs.length c') (.slice A'' xs.length c'') xs xs (wr.drewN n) (HI.out.keep (bC (zL _ _) n)) (HI'.out.keep (bC (zL _ _) n))
      rwa [HT.out] at h
     clear hxs i1 i2
     go_wp2_with fail
     go_quiet ((go_at_call 27;exact Calls.quiet_of (HS.out _)))
     go_wp2_with fail
     go_roundw
     case rel=>exact ⟨j+1,_,by omega,by go_num,rfl,bC HB1.out _⟩
     case measure=>simp [intOf];omega
    ·go_wp2_with fail
     go_ret
     exact ⟨rfl,HBW.out⟩
def eE (L:List Int) (p:Nat):Nat:=if p<L.length then p+1 else p
def NextRetX (w:World) (g:Nat) (lv:Value) (L:List Int) (at_:Nat) (n:Int) (e:Ending) (w':World):Prop :=
 ∃(x:Int) (at':Nat),e = .returned (.int .i64 x)∧0≤x∧x<n∧at'≤L.length∧Blk w' g 101 #[lv, .int .i64 at']∧w.grownBy w' (some g)∧w'.heap.size=w.heap.size∧x=L.getD at_ 0 % n∧at'=eE L at_
set_option maxRecDepth 100000 in
set_option maxHeartbeats 1000000 in
theorem aQ (g:Nat) (lv:Value) (at_:Nat) (L:List Int) (n:Int) (w:World) (hB:Blk w g 101 #[lv, .int .i64 at_]) (hL:Byts w lv L) (h1:1≤n) (h2:n≤1000000) (hat:at_≤L.length) (hlen:L.length≤1000000) :
  Calls Try.prog 44 #[.pointer (some ⟨g,0,none⟩), .int .i64 n] w (NextRetX w g lv L at_ n):=by
 have q0:=hB.cell 0
 have q1:=hB.cell 1
 simp only [zA,zB,zC] at q0 q1
 have f1:=hB.frozen 1
 have hgl:=hB.lt
 have HB:=Lib.hid hB
 obtain ⟨A,c,rfl,k1,k2,k3,hr⟩:=hL
 have HR:=Lib.hid hr
 have HX:=Lib.hid k3
 clear hB k2 k3 hr
 have dn:decide (n<1)=false:=by simp;omega
 by_cases hlt:at_<L.length
 ·obtain ⟨x,hx⟩:∃x,L[at_]? = some x:=⟨_,List.getElem?_eq_getElem hlt⟩
  obtain ⟨b,o,rfl,hb,hc⟩:=HR.out.at_ (u := .int .u8 x) (by rw [List.getElem?_map,hx];rfl)
  obtain ⟨x1,x2⟩:=HX.out x (List.mem_of_getElem? hx)
  have hbg:b≠g:=by
   rintro rfl
   rw [HB.out.cell] at hc
   rcases h:o+at_ with _|_|m<;>rw [h] at hc<;>simp at hc
  have HXE:Hid (x % n=L.getD at_ 0 % n):=Lib.hid (by rw [List.getD_eq_getElem?_getD,hx];rfl)
  clear hx
  have d1:decide ((L.length:Int)≤(at_:Int))=false:=by simp;omega
  go_enter Try.func44,Try.ntmps44
  go_wp2_with fail
  go_quiet (fail)
  go_wp2_with fail
  have B1:Blk ((w.drewN nq).setCell ⟨g,1,none⟩ (.int .i64 ((at_:Int)+1))) g 101 #[.slice (some ⟨b,o,none⟩) L.length c, .int .i64 ((at_:Int)+1)]:=(HB.out.drewN nq).set_ 1 _
  have hc1:((w.drewN nq).setCell ⟨g,1,none⟩ (.int .i64 ((at_:Int)+1))).cell? ⟨b,o+at_,none⟩=some (.int .u8 x) :=
   (yR (a:=⟨b,o+at_,none⟩) (kJ (w.drewN nq) ⟨g,1,none⟩ _ b hbg)).trans hc
  have hgr:w.grownBy ((w.drewN nq).setCell ⟨g,1,none⟩ (.int .i64 ((at_:Int)+1))) (some g) :=
   ⟨rfl,rfl,rfl,by simp,fun k _ hne=>kJ (w.drewN nq) ⟨g,1,none⟩ _ k (by simpa using hne)⟩
  have hsz:((w.drewN nq).setCell ⟨g,1,none⟩ (.int .i64 ((at_:Int)+1))).heap.size=w.heap.size:=by simp
  generalize (w.drewN nq).setCell ⟨g,1,none⟩ (.int .i64 ((at_:Int)+1))=W at *
  have q0:=B1.cell 0
  have q1:=B1.cell 1
  simp only [zA,zB,zC] at q0 q1
  have HB1:=Lib.hid B1
  have HG:=Lib.hid hgr
  have HSZ:=Lib.hid hsz
  clear B1 hgr hc hsz
  have y1:IntKind.i64.wrap ((at_:Int)+1-1)=(at_:Int):=by rw [show (at_:Int)+1-1=at_ by omega];exact qS _ (by omega)
  have y2:((at_:Int)).toNat=at_:=by omega
  have y3:IntKind.i64.wrap x=x:=qS _ (by omega)
  have ym1:0≤x % n:=vG _ (by omega)
  have ym2:x % n<n:=kL _ (by omega)
  have y4:IntKind.i64.wrap (x % n)=x % n:=qS _ (by omega)
  have y5:(n == 0)=false:=by simp;omega
  go_quiet (fail)
  go_wp2_with fail
  go_ret
  exact ⟨x % n,at_+1,rfl,ym1,ym2,by omega,HB1.out.drewN _,⟨HG.out.os,HG.out.tape,HG.out.output,HG.out.size,HG.out.block⟩,HSZ.out,HXE.out,(if_pos hlt).symm⟩
 ·have d1:decide ((L.length:Int)≤(at_:Int))=true:=by simp;omega
  go_enter Try.func44,Try.ntmps44
  go_wp2_with fail
  go_quiet (fail)
  go_wp2_with fail
  go_ret
  exact ⟨0,at_,rfl,by omega,by omega,hat,HB.out.drewN _,⟨rfl,rfl,rfl,Nat.le_refl _,fun _ _ _=>rfl⟩,rfl,by rw [List.getD_eq_getElem?_getD,List.getElem?_eq_none (by omega)];simp,(if_neg hlt).symm⟩
end Go.Proofs.Yticieifacalocaa
