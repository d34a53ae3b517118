/- Open OpenP ClsL -/
import Derived.ProofKit
import Derived.OpenShut
import Derived.Deep.Slices
import Derived.Deep.Fields
import Derived.Lib.SmallJoins
import Derived.SizedLaws
import Derived.WideKeyArgs
import Derived.Test.YticieifacalocaaTSC25
import Derived.Laws.IdiomArrays
namespace Go.Proofs.Yticieifacalocaa
open Go.ChangeShapes Go.WideShapes Go.ChangeAt Go.RowKit Go.Deep Go.Joins
theorem list_of {α:Type} {n:Nat} {R:Nat→α→Prop} (h:∀i,i<n→∃a,R i a):∃xs:List α,xs.length=n∧∀i a,xs[i]? = some a→R i a:=by
 induction n with
 | zero=>exact ⟨[],rfl,fun i a h=>by simp at h⟩
 | succ n ih =>
  obtain ⟨xs,hl,hx⟩:=ih fun i hi=>h i (by omega)
  obtain ⟨a,ha⟩:=h n (by omega)
  refine ⟨xs++[a],by simp [hl],fun i b hb => ?_⟩
  rw [xZ] at hb
  split at hb
  ·exact hx i b hb
  ·rename_i hi
   have:i=n:=by
    have:=(zG.1 hb).1
    simp at this;omega
   subst this
   simp [hl] at hb
   subst hb
   exact ha
theorem flatMap_at {α β:Type} {xs:List α} {g:α→List β} {k:Nat} (hk:∀a,(g a).length=k) {j:Nat} {u:β} (h:(xs.flatMap g)[j]? = some u) :
  ∃i a r,xs[i]? = some a∧(g a)[r]? = some u∧j=i * k+r∧r<k:=by
 induction xs generalizing j with
 | nil=>simp at h
 | cons a t ih =>
  rw [xE,xZ] at h
  split at h
  ·rename_i hlt
   exact ⟨0,a,j,rfl,h,by omega,by rw [hk] at hlt;exact hlt⟩
  ·rename_i hge
   obtain ⟨i,b,r,h1,h2,h3,h4⟩:=ih h
   rw [hk] at hge h3
   exact ⟨i+1,b,r,by simpa using h1,h2,by rw [jA];omega,h4⟩
section
variable {H:Type} {enc:TypeId × Value→H} {P:Program} {w:World}
theorem open_sl {α:Type} {Q:α→DataW H→Prop} {g:α→List Value} {t e:TypeId} {fuel k:Nat} {v:Value} {x:DataW H × List MemPlace} (ht:P.underlying t=some (.slice e)) (hk:P.cellsOf e=k) (hk0:0<k) (hg:∀a,(g a).length=k)
  (conv:∀n cs y,DataW.trod enc P w 0 (fun _=>true) true n e cs=some y→∃a,cs=g a∧Q a y.1)
  (h:DataW.trod enc P w 0 (fun _=>true) true fuel t [v]=some x) :
  ∃(xs:List α) (A:Option Addr) (c:Nat) (D:Nat→DataW H),v = .slice A xs.length c∧xs.length≤c∧c≤maxLen∧Rd w A (xs.flatMap g)∧(∀i a,xs[i]? = some a→Q a (D i)) ∧
   (∀i,i<xs.length→∀n∈(D i).weights P e,n∈x.1.weights P t)∧(A=none∨∃n∈x.1.weights P t,n=c * P.bytesOf e):=by
 rcases open_slice ht h with ⟨h0,_⟩|⟨a,len,cap,m,n,D,Pl,hcs,_,hl,hm,hmm,hx,hi⟩
 ·injection h0 with h0
  subst h0
  exact ⟨[],none,0,fun _ => .nil,rfl,by simp,by simp [maxLen],Rd.nil _ _,by simp,by simp, .inl rfl⟩
 ·injection hcs with hcs
  subst hcs
  have hmc:m=cap:=by simpa using hmm
  subst hmc
  have key:∀i,i<len→∃b:α,Q b (D i)∧∀r u,(g b)[r]? = some u→w.cell? (a.add (i * k+r))=some u:=by
   intro i hil
   obtain ⟨cs',hc,htr⟩:=hi i (by omega)
   obtain ⟨b,hb,hQ⟩:=conv _ _ _ htr
   refine ⟨b,hQ,fun r u hu => ?_⟩
   obtain ⟨_,hcl,hat⟩:=World.cells?_some hc
   rw [hk] at hat hcl
   have hr:r<k:=by rw [←hg b];exact (zG.1 hu).1
   have:=hat r hr
   rw [Go.Deep.add_add] at this
   rw [this,hb]
   exact hu
  obtain ⟨xs,hxl,hxs⟩:=list_of key
  subst hxl
  refine ⟨xs,some a,m,D,rfl,hl,hm,?_,fun i b hb=>(hxs i b hb).1,fun i hil q hq => ?_, .inr ⟨_,?_,rfl⟩⟩
  ·intro hpos
   have hx0:0<xs.length:=by
    rcases xs with _|⟨y,ys⟩
    ·simp at hpos
    ·simp
   obtain ⟨b0,hb0⟩:∃b,xs[0]? = some b:=⟨_,List.getElem?_eq_getElem hx0⟩
   obtain ⟨u0,hu0⟩:∃u,(g b0)[0]? = some u:=⟨_,List.getElem?_eq_getElem (by rw [hg];exact hk0)⟩
   have hc0:=(hxs 0 b0 hb0).2 0 u0 hu0
   obtain ⟨b,off,spot⟩:=a
   have hspot:spot=none:=by simpa [Addr.add] using World.cell?_spot hc0
   subst hspot
   have hblk:=vI w _ hc0
   refine ⟨b,off,rfl,by simpa [Addr.add] using hblk,fun j u hu => ?_⟩
   obtain ⟨i,c,r,h1,h2,h3,h4⟩:=flatMap_at hg hu
   have:=(hxs i c h1).2 r u h2
   rw [h3,←Go.WideShapes.add_plain]
   exact this
  ·have hmem:D i∈(List.range xs.length).map D:=List.mem_map.2 ⟨i,jP.2 hil,rfl⟩
   have hall:∀l:List (DataW H),D i∈l→q∈DataW.weightsAll P e l:=by
    intro l hl
    induction l with
    | nil=>cases hl
    | cons d r ih =>
     rw [DataW.weightsAll,zK]
     rcases zW.1 hl with rfl|hl
     ·exact .inl hq
     ·exact .inr (ih hl)
   rw [hx]
   simp only [DataW.weights,ht,zW,zK]
   exact .inr (.inl (hall _ hmem))
  ·rw [hx]
   simp only [DataW.weights,ht,zW,List.length_map,List.length_range]
   left
   rw [show xs.length+(m-xs.length)=m by omega]
theorem flatMap_one {α:Type} (xs:List α) (g:α→Value):xs.flatMap (fun a=>[g a])=xs.map g:=by
 induction xs with
 | nil=>rfl
 | cons a r ih=>simp [ih]
theorem v_one {b0 fuel:Nat} {t e:TypeId} {v:Value} {y:DataW H × List MemPlace} (_hv:Value.okWide P w .any b0 t v) (h:DataW.trod enc P w 0 (fun _=>true) true fuel t v.cells.toList=some y) (ht:P.underlying t=some (.slice e)) :
  DataW.trod enc P w 0 (fun _=>true) true fuel t [v]=some y:=by
 obtain ⟨a,l,c,rfl⟩:=okWide_slice ht _hv
 exact h
theorem oL {ts:List TypeId} {vs:List Value} {ds:List (DataW H)} {ps:List MemPlace} (hl:laidOutB P=true) (hr:∀t∈ts,P.readableRec t=true∧t<P.types.size) {W W':World} {sp:Nat→Bool}
  (h:DataW.TrodAll enc P W 0 (fun _=>true) true ts vs ds ps) (hsame:∀p∈ps,W.sameAt W' p) (hs:∀p∈ps,sp p.block=true):DataW.TrodAll enc P W' 0 sp true ts vs ds ps:=by
 induction ts generalizing vs ds ps with
 | nil=>cases vs<;>cases ds<;>simp_all [DataW.TrodAll]
 | cons t ts ih =>
  obtain ⟨v,vs',d,ds',p,q,rfl,rfl,rfl,h1,h2⟩:=trodAll_cons h
  obtain ⟨r1,r2⟩:=hr t (by simp)
  exact ⟨p,q,WideElems.Trod_stays hl r1 r2 h1 (fun x hx=>hsame x (by simp [hx])) (fun x hx=>hs x (by simp [hx])),ih (fun t ht=>hr t (by simp [ht])) h2 (fun x hx=>hsame x (by simp [hx])) (fun x hx=>hs x (by simp [hx])),rfl⟩
theorem nD {f:Func} {s:ChangeSpec} {W W':World} {args:Array Value} {ds gs:List (DataW H)} {before:List MemPlace} {tb:TypeId} (hW:DataW.Whole enc P f.params.toList s.vars false W args.toList ds gs before)
  (hvars:s.vars=[]) (hres:f.resultTypes = #[tb]) (htb:P.underlying tb=some .bool) (hfn:s.fn H ds={ results:=[.lit (.bool true)],args:=ds })
  (hl:laidOutB P=true) (hr:∀t∈f.params.toList,P.readableRec t=true∧t<P.types.size) (hb:Below W.heap.size W W') :
  s.post enc P f false true false false W args (.bool true) W':=by
 have hlt:∀p∈before,p.block<W.heap.size:=fun p hp=>hW.lt p hp
 have hW':=hW
 obtain ⟨p,q,hA,hV,rfl,hz,hn⟩:=hW
 rw [hvars] at hV
 obtain ⟨rfl,rfl⟩:=trodVars_none hV
 simp only [xA] at *
 have hres1:∀(b:Nat) (sp:Nat→Bool) (hd:Bool),DataW.TrodAll enc P W' b sp hd f.resultTypes.toList ((Value.bool true).resultList f.resultTypes.size) (s.fn H (ds++[])).results []:=by
  intro b sp hd
  rw [xA,hfn,hres]
  exact trodAll_cons_mk (shut_bool htb _) trodAll_mk0
 have hargs:∀sp:Nat→Bool,(∀x∈p,sp x.block=true)→DataW.TrodAll enc P W' 0 sp true f.params.toList args.toList (s.fn H (ds++[])).args p:=by
  intro sp hsp
  rw [xA,hfn]
  exact oL hl hr hA (fun x hx=>hb.same (hlt x hx)) hsp
 have hvs:∀sp:Nat→Bool,DataW.TrodVars enc P W' sp s.vars (s.fn H (ds++[])).vars []:=by
  intro sp
  rw [xA,hfn,hvars]
  rfl
 refine ⟨ds,[],p,[],p,[],hW',hres1 _ _ _,hargs _ (fun x hx=>by simpa using hlt x hx),hvs _,World.keptBut_mono (fun x hx=>⟨hx,?_⟩) (hb.frame (· ∈ p)),fun h=>by cases h⟩
 exact Or.inr (Or.inl hx)
end
open Go.ChangeShapes Go.WideShapes Go.ChangeAt Go.RowKit Go.Deep Go.Joins
section
variable {H:Type} {enc:TypeId × Value→H} {P:Program} {w:World}
theorem eJ {n:Int} (h:(Lit.int .u8 n).wf=true):0≤n∧n≤255:=by
 simpa [Lit.wf,IntKind.min,IntKind.max,IntKind.signed,IntKind.bits] using h
theorem rd_byts {t e:TypeId} {fuel:Nat} {v:Value} {x:DataW H × List MemPlace} (ht:P.underlying t=some (.slice e)) (he:P.underlying e=some (.int .u8)) (hc:P.cellsOf e=1)
  (h:DataW.trod enc P w 0 (fun _=>true) true fuel t [v]=some x):∃xs,Byts w v xs:=by
 obtain ⟨xs,A,c,D,rfl,h1,h2,h3,h4,_,_⟩:=open_sl (α:=Int) (Q:=fun a _=>0≤a∧a≤255) (g:=fun a=>[.int .u8 a]) ht hc (by omega) (fun _=>rfl)
  (fun n cs y hy=>by obtain ⟨a,rfl,_,hw⟩:=vL he hy;exact ⟨a,rfl,eJ hw⟩) h
 rw [flatMap_one] at h3
 refine ⟨xs,A,c,rfl,h1,h2,fun x hx => ?_,h3⟩
 obtain ⟨i,hi,rfl⟩:=yD hx
 exact h4 i _ (List.getElem?_eq_getElem hi)
set_option maxRecDepth 100000 in
theorem pY {b0:Nat} {W:World} {v:Value} {d:DataW H} {p:List MemPlace} (hv:Value.okWide Try.prog W .any b0 25 v) (h:DataW.Trod enc Try.prog W 0 (fun _=>true) true 25 v d p) :
  ∃a b c L,fL W v a b c L:=by
 obtain ⟨cs,rfl,hsz⟩:=okWide_struct Try.underlying25 hv
 rw [show Try.prog.cellsOf 25=4 by kernel_rfl] at hsz
 obtain ⟨c0,c1,c2,c3,rfl⟩:∃c0 c1 c2 c3,cs = #[c0,c1,c2,c3]:=by
  match cs,hsz with
  | ⟨[c0,c1,c2,c3]⟩,_=>exact ⟨c0,c1,c2,c3,rfl⟩
 obtain ⟨fuel,hf⟩:=h
 obtain ⟨y0,y1,n,_,_,h0,h1⟩:=trod_struct2 Try.underlying25 hf
 have h0':DataW.trod enc Try.prog W 0 (fun _=>true) true n 22 [c0,c1,c2]=some y0:=by
  rw [show Try.prog.cellsOf 22=3 by kernel_rfl] at h0
  exact h0
 have h1':DataW.trod enc Try.prog W 0 (fun _=>true) true n 23 [c3]=some y1:=by
  rw [show Try.prog.cellsOf 23=1 by kernel_rfl] at h1
  exact h1
 obtain ⟨z0,z1,z2,m,_,g0,g1,g2⟩:=trod_array3 Try.underlying22 (by kernel_rfl) h0'
 obtain ⟨a,ea,_,wa⟩:=vL Try.underlying5 g0
 obtain ⟨b,eb,_,wb⟩:=vL Try.underlying5 g1
 obtain ⟨c,ec,_,wc⟩:=vL Try.underlying5 g2
 injection ea with ea
 injection eb with eb
 injection ec with ec
 subst ea eb ec
 obtain ⟨L,hL⟩:=rd_byts Try.underlying23 Try.underlying5 (by kernel_rfl) h1'
 exact ⟨a,b,c,L,c3,rfl,eJ wa,eJ wb,eJ wc,hL⟩
end
open Go.ChangeShapes Go.WideShapes Go.ChangeAt Go.RowKit Go.Deep Go.Joins
section
variable {H:Type} {enc:TypeId × Value→H} {P:Program} {w:World}
theorem rd_num {k:IntKind} {b0:Nat} {t:TypeId} {v:Value} {d:DataW H} {p:List MemPlace} (ht:P.underlying t=some (.int k)) (hv:Value.okWide P w .any b0 t v) (h:DataW.Trod enc P w 0 (fun _=>true) true t v d p):∃n,v = .int k n∧(Lit.int k n).wf=true:=by
 obtain ⟨n,rfl⟩:=okWide_int ht hv
 obtain ⟨fuel,hf⟩:=h
 obtain ⟨m,e,_,hw⟩:=vL ht hf
 simp [Value.cells] at e
 subst e
 exact ⟨_,rfl,hw⟩
theorem rd_u8 {b0:Nat} {t:TypeId} {v:Value} {d:DataW H} {p:List MemPlace} (ht:P.underlying t=some (.int .u8)) (hv:Value.okWide P w .any b0 t v) (h:DataW.Trod enc P w 0 (fun _=>true) true t v d p):∃n,v = .int .u8 n∧0≤n∧n≤255:=by
 obtain ⟨n,h1,h2⟩:=rd_num ht hv h
 exact ⟨n,h1,eJ h2⟩
end
open Go.RowKit
def eH (f:Form) (l:List Stp):Prop:=validF f=0∧(∀c∈f.clauses,c.length≤200000)∧l.length≤1099511627776∧∀s∈l,s.lits.length≤1000000
set_option maxRecDepth 100000 in
set_option maxHeartbeats 4000000 in
theorem oJ (fv lv:Value) (f:Form) (l:List Stp) (w:World) (hf:IsForm w fv f) (hl:Stps w lv l) (hq:eH f l) :
  Calls Try.prog 69 #[fv,lv] w (RClsRet w (gE f [] l)):=by
 obtain ⟨hv,hcl,hn,hll⟩:=hq
 have HF:=Lib.hid hf
 have HV:=Lib.hid hv
 have HOK:=Lib.hid (okC_of hv)
 have HCL:=Lib.hid hcl
 have HLL:=Lib.hid hll
 obtain ⟨av,cv,rfl, -, -,hf3,hf4⟩:=hf
 have HA:=Lib.hid hf3
 have HM:=Lib.hid hf4
 obtain ⟨Aa,ca,rfl, -, -, -, -⟩:=hf3
 obtain ⟨Ac,cc,vs,rfl,m1,m2,m3,m4,m5⟩:=hf4
 unfold maxLen at m2
 have HM3:=Lib.hid m3
 have HM4:=Lib.hid m4
 have HM5:=Lib.hid m5
 have hal:(f.atoms.length:Int)≤1024:=by have:=gY hv;omega
 obtain ⟨A,c,ps,hps,rfl,l1,l2,l3,l4⟩:=hl
 have hpl:ps.length=l.length:=by rw [hps];simp
 have HPS:=Lib.hid hps
 have HPL:=Lib.hid hpl
 have HR:=Lib.hid l3
 have H4:=Lib.hid l4
 unfold maxLen at l2
 have hpn:ps.length≤1099511627776:=by omega
 clear hv hcl hll hps hpl l3 l4 m3 m4 m5
 obtain ⟨iS,hiS,hzS0,hzS1,hzS2⟩:=qC cD
 go_enter Try.func69,Try.ntmps69
 go_wp2_with fail
 have hCL:CL w (w.alloc (.cells #[.int .i64 f.ints, .int .i64 f.bools, .slice Aa f.atoms.length ca, .slice Ac f.clauses.length cc] 29)) #[.int .i64 f.ints, .int .i64 f.bools, .slice Aa f.atoms.length ca, .slice Ac f.clauses.length cc] (.slice none 0 0) [] [] :=
  ⟨Blk.new w _ _,OwnMat.nil _ _ _,by simp,by simp,(zM w.heap.size w).alloc (Nat.le_refl _) _⟩
 generalize w.alloc (.cells #[.int .i64 f.ints, .int .i64 f.bools, .slice Aa f.atoms.length ca, .slice Ac f.clauses.length cc] 29)=W0 at *
 have HCL0:=Lib.hid hCL
 clear hCL
 go_loopw [6,13] (fun v i wr=>∃(k:Nat) (us:List Value) (cs:List (List Int)),k≤ps.length∧i = .int .i64 k∧cs.length=k∧gE f cs (l.drop k)=gE f [] l∧CL w wr #[.int .i64 f.ints, .int .i64 f.bools, .slice Aa f.atoms.length ca, .slice Ac f.clauses.length cc] v us cs) (fun _ i _=>ps.length-(intOf i).toNat)
 case atStart=>exact ⟨0,[],[],by omega,rfl,rfl,rfl,HCL0.out⟩
 case round =>
  obtain ⟨k,us,cs,hk,rfl,hck,hrun,hcl⟩:=hrel
  have H1:=Lib.hid hcl
  have HCK:=Lib.hid hck
  have HRUN:=Lib.hid hrun
  have hul:us.length=k:=by rw [hcl.om.2.1,hck]
  have HUL:=Lib.hid hul
  obtain ⟨Ax,cx,hx, -, -, -⟩:=wQ hcl.om.1
  subst hx
  clear hcl hck hrun hul
  by_cases hlt:k<ps.length
  ·obtain ⟨⟨s,sv⟩,hp⟩:∃p,ps[k]? = some p:=⟨_,List.getElem?_eq_getElem hlt⟩
   obtain ⟨b1,o1,rfl,hb1,t0,t1,t2,t3,t4,t5⟩:=Stps.at_ (HR.out.keep H1.out.bl) hp
   have HP:=Lib.hid (H4.out (s,sv) (List.mem_of_getElem? hp))
   have HLK:Hid (l[k]? = some s):=by refine Lib.hid ?_;rw [HPS.out,List.getElem?_map,hp];rfl
   obtain ⟨As,cs',hsv, -, -, -, -⟩:=HP.out.1
   simp only at hsv t0 t1 t2 t3 t4 t5
   subst hsv
   have HSL:=Lib.hid (HLL.out s (List.mem_of_getElem? HLK.out))
   clear hp
   have HB3:Hid (Below wr.heap.size wr (wr.alloc (.cells #[.int .i64 s.kind, .int .i64 s.index, .slice As s.lits.length cs', .int .i64 s.p, .int .i64 s.q, .int .i64 s.var] 91))):=(zM _ _).alloc (Nat.le_refl _) _
   have H3:=Lib.hid (H1.out.keep HB3.out)
   have z0:=H3.out.b0.cell 0
   have z1:=H3.out.b0.cell 1
   have z2:=H3.out.b0.cell 2
   have z3:=H3.out.b0.cell 3
   simp only [zA,zB,zC] at z0 z1 z2 z3
   have hbs:∀g,(Value.slice Ax us.length cx).ownBlock=some g→g<wr.heap.size:=fun g e=>(H1.out.om.1.lt g e).2
   have HBS:=Lib.hid hbs
   have HSW:Hid ((wr.alloc (.cells #[.int .i64 s.kind, .int .i64 s.index, .slice As s.lits.length cs', .int .i64 s.p, .int .i64 s.q, .int .i64 s.var] 91)).heap.size=wr.heap.size+1):=by refine Lib.hid ?_;simp
   clear hbs
   by_cases k1:s.kind=1
   ·have e1:(s.kind == 1)=true:=by simp [k1]
    by_cases i0:0≤s.index
    ·have d1:decide (0≤s.index)=true:=by simpa using i0
     by_cases i1:s.index<(f.clauses.length:Int)
     ·have d2:decide (s.index<(f.clauses.length:Int))=true:=by simpa using i1
      obtain ⟨n,hn⟩:∃n:Nat,s.index=n:=⟨s.index.toNat,by omega⟩
      have hnl:n<f.clauses.length:=by omega
      obtain ⟨x,hx⟩:∃c,f.clauses[n]? = some c:=⟨_,List.getElem?_eq_getElem hnl⟩
      obtain ⟨b,off,A1,c1,rfl,hb,hcell,hI⟩:=Mat.at_ (HM4.out.keep H3.out.bl) HM3.out (fun k u xs a b=>(HM5.out k u xs a b).keep H3.out.bl) hx
      have HDV:Hid (deriv f s cs=gB x):=by refine Lib.hid ?_;unfold deriv;rw [if_pos k1,if_pos (by omega),hn,Int.toNat_natCast,hx];rfl
      have HI:=Lib.hid hI
      have HLE:=Lib.hid (HCL.out x (List.mem_of_getElem? hx))
      rw [hn] at t1 d1 d2 hcell HI H3 HSW z0 z1 z2 z3
      clear k1 i0 i1 hx hI
      go_wp2_with fail
      generalize (wr.alloc (.cells #[.int .i64 s.kind, .int .i64 (n:Int), .slice As s.lits.length cs', .int .i64 s.p, .int .i64 s.q, .int .i64 s.var] 91))=W3 at *
      clear z0 z1 z2 z3 t0 t1 t2 t3 t4 t5 hcell
      refine (eL _ x _ HI.out (by have:=HLE.out;omega)).mono ?_
      rintro e w4 ⟨v,rfl,h5,h6⟩
      have H5:=Lib.hid h5
      have H6:=Lib.hid (H3.out.keep h6)
      clear h5 h6
      cases hd:gB x with
      | none =>
       have HN:Hid (gE f [] l=(cs,false)):=by
        refine Lib.hid ?_
        rw [←HRUN.out];exact dF HLK.out (HDV.out.trans hd)
       clear hd
       simp only [kO]
       go_wp2_with fail
       go_ret2
       exact .inr ⟨by rw [HN.out],by rw [HN.out,HCK.out];rfl,H6.out.bl⟩
      | some d =>
       have HN:Hid (gE f (cs++[d]) (l.drop (k+1))=gE f [] l):=by
        refine Lib.hid ?_
        rw [←HRUN.out];exact eR HLK.out (HDV.out.trans hd)
       have HOC:=Lib.hid (iQ HV.out H3.out.ok (HDV.out.trans hd))
       rw [hd] at H5
       simp only [xQ,kP] at H5 ⊢
       obtain ⟨Ad,cd,hdv, -, -, -⟩:=wQ H5.out.1
       subst hdv
       clear hd
       go_wp2_with (at_builtin;refine zX _ rfl _ _ 27 rfl (w.heap.size+1) 33 iS (.slice none 0 0) 1 24 Try.underlying27 hiS hzS0 hzS1 hzS2 rfl (by decide) _ _ _ rfl (H6.out.om.1.alloc _) ⟨w4.heap.size,0,none⟩ 1 1 [.slice Ad d.length cd] rfl rfl (gN w4 _ _) ?b2 ?b3 ?b4 ?b5 ?_)
       case b2=>first|rfl|(intro u hu;simp at hu;subst hu;rfl)
       case b3=>have:=HUL.out;unfold maxLen;omega
       case b4=>have:=HUL.out;omega
       case b5=>have:=H6.out.hi;first|omega|(simp;omega)
       intro v' w5 hown' hgrow _ hat
       have H7:=Lib.hid (H3.out.push (fun g e=>by have:=HBS.out g e;have:=HSW.out;omega) H6.out H5.out HOC.out H3.out.hi hown' hgrow (by simpa using hat))
       obtain ⟨Ap,cp,hvp, -, -, -⟩:=wQ hown'
       subst hvp
       clear hown' hgrow hat
       go_wp2_with fail
       go_roundw
       case rel=>exact ⟨k+1,us++[.slice Ad d.length cd],cs++[d],by omega,by go_num,by simp [HCK.out],HN.out,H7.out⟩
       case measure=>simp [intOf];omega
     ·have d2:decide (s.index<(f.clauses.length:Int))=false:=by simp;omega
      have HN:Hid (gE f [] l=(cs,false)):=by
       refine Lib.hid ?_
       rw [←HRUN.out];exact dF HLK.out (by unfold deriv;rw [if_pos k1,if_pos i0,List.getElem?_eq_none (by omega)];rfl)
      clear k1 i0 i1
      go_wp2_with fail
      go_ret2
      exact .inr ⟨by rw [HN.out],by rw [HN.out,HCK.out];rfl,H3.out.bl⟩
    ·have d1:decide (0≤s.index)=false:=by simp;omega
     have HN:Hid (gE f [] l=(cs,false)):=by
      refine Lib.hid ?_
      rw [←HRUN.out];exact dF HLK.out (by unfold deriv;rw [if_pos k1,if_neg i0])
     clear k1 i0
     go_wp2_with fail
     go_ret2
     exact .inr ⟨by rw [HN.out],by rw [HN.out,HCK.out];rfl,H3.out.bl⟩
   have e1:(s.kind == 1)=false:=by simp [k1]
   by_cases k2:s.kind=2
   ·have e2:(s.kind == 2)=true:=by simp [k2]
    have HDV:Hid (deriv f s cs=cyc f.atoms s.lits):=by refine Lib.hid ?_;unfold deriv;rw [if_neg k1,if_pos k2]
    clear k1 k2
    go_wp2_with fail
    generalize (wr.alloc (.cells #[.int .i64 s.kind, .int .i64 s.index, .slice As s.lits.length cs', .int .i64 s.p, .int .i64 s.q, .int .i64 s.var] 91))=W3 at *
    clear z0 z1 z2 z3 t0 t1 t2 t3 t4 t5
    refine (sM _ _ _ _ _ f.atoms s.lits _ (HA.out.keep H3.out.bl) (HP.out.1.keep H3.out.bl) HOK.out HSL.out (by omega)).mono ?_
    rintro e w4 ⟨v,rfl,h5,h6⟩
    have H5:=Lib.hid h5
    have H6:=Lib.hid (H3.out.keep h6)
    clear h5 h6
    cases hd:cyc f.atoms s.lits with
    | none =>
     have HN:Hid (gE f [] l=(cs,false)):=by
      refine Lib.hid ?_
      rw [←HRUN.out];exact dF HLK.out (HDV.out.trans hd)
     clear hd
     simp only [kO]
     go_wp2_with fail
     go_ret2
     exact .inr ⟨by rw [HN.out],by rw [HN.out,HCK.out];rfl,H6.out.bl⟩
    | some d =>
     have HN:Hid (gE f (cs++[d]) (l.drop (k+1))=gE f [] l):=by
      refine Lib.hid ?_
      rw [←HRUN.out];exact eR HLK.out (HDV.out.trans hd)
     have HOC:=Lib.hid (iQ HV.out H3.out.ok (HDV.out.trans hd))
     rw [hd] at H5
     simp only [xQ,kP] at H5 ⊢
     obtain ⟨Ad,cd,hdv, -, -, -⟩:=wQ H5.out.1
     subst hdv
     clear hd
     go_wp2_with (at_builtin;refine zX _ rfl _ _ 27 rfl (w.heap.size+1) 33 iS (.slice none 0 0) 1 24 Try.underlying27 hiS hzS0 hzS1 hzS2 rfl (by decide) _ _ _ rfl (H6.out.om.1.alloc _) ⟨w4.heap.size,0,none⟩ 1 1 [.slice Ad d.length cd] rfl rfl (gN w4 _ _) ?c2 ?c3 ?c4 ?c5 ?_)
     case c2=>first|rfl|(intro u hu;simp at hu;subst hu;rfl)
     case c3=>have:=HUL.out;unfold maxLen;omega
     case c4=>have:=HUL.out;omega
     case c5=>have:=H6.out.hi;first|omega|(simp;omega)
     intro v' w5 hown' hgrow _ hat
     have H7:=Lib.hid (H3.out.push (fun g e=>by have:=HBS.out g e;have:=HSW.out;omega) H6.out H5.out HOC.out H3.out.hi hown' hgrow (by simpa using hat))
     obtain ⟨Ap,cp,hvp, -, -, -⟩:=wQ hown'
     subst hvp
     clear hown' hgrow hat
     go_wp2_with fail
     go_roundw
     case rel=>exact ⟨k+1,us++[.slice Ad d.length cd],cs++[d],by omega,by go_num,by simp [HCK.out],HN.out,H7.out⟩
     case measure=>simp [intOf];omega
   have e2:(s.kind == 2)=false:=by simp [k2]
   by_cases k3:s.kind=3
   ·have e3:(s.kind == 3)=true:=by simp [k3]
    have HDV:Hid (deriv f s cs=resE cs s):=by refine Lib.hid ?_;unfold deriv;rw [if_neg k1,if_neg k2,if_pos k3];rfl
    clear k1 k2 k3
    by_cases p0:0≤s.p
    ·have d1:decide (0≤s.p)=true:=by simpa using p0
     by_cases p1:s.p<(k:Int)
     ·have d2:decide (s.p<(k:Int))=true:=by simpa using p1
      by_cases q0:0≤s.q
      ·have d3:decide (0≤s.q)=true:=by simpa using q0
       by_cases q1:s.q<(k:Int)
       ·have d4:decide (s.q<(k:Int))=true:=by simpa using q1
        obtain ⟨p,hp⟩:∃n:Nat,s.p=n:=⟨s.p.toNat,by omega⟩
        obtain ⟨q,hq⟩:∃n:Nat,s.q=n:=⟨s.q.toNat,by omega⟩
        obtain ⟨P,hP⟩:∃c,cs[p]? = some c:=⟨_,List.getElem?_eq_getElem (by have:=HCK.out;omega)⟩
        obtain ⟨Q,hQ⟩:∃c,cs[q]? = some c:=⟨_,List.getElem?_eq_getElem (by have:=HCK.out;omega)⟩
        obtain ⟨A',c',vs',hv', -, -,g3,g4,g5⟩:=H3.out.om.mat
        injection hv' with x1 x2 x3
        subst x1 x3
        obtain ⟨b,off,A1,c1,hAb,hb,hcellP,hIP⟩:=Mat.at_ g4 g3 g5 hP
        obtain ⟨b',off',A2,c2,hAb',hb',hcellQ,hIQ⟩:=Mat.at_ g4 g3 g5 hQ
        subst hAb
        injection hAb' with y
        injection y with y1 y2
        subst y1 y2
        have HRE:=Lib.hid (oQ (s:=s) hp hq hP hQ)
        have HIP:=Lib.hid hIP
        have HIQ:=Lib.hid hIQ
        have HLP:=Lib.hid (H3.out.ok P (List.mem_of_getElem? hP)).len
        have HLQ:=Lib.hid (H3.out.ok Q (List.mem_of_getElem? hQ)).len
        have hpk:p<k:=by omega
        have hqk:q<k:=by omega
        have hpu:p<us.length:=by have:=HUL.out;omega
        have hqu:q<us.length:=by have:=HUL.out;omega
        rw [hp] at t3 d1 d2 H3 HSW z0 z1 z2 z3 HIP HIQ hcellP hcellQ hb hb'
        rw [hq] at t4 d3 d4 H3 HSW z0 z1 z2 z3 HIP HIQ hcellP hcellQ hb hb'
        clear p0 p1 q0 q1 hP hQ hIP hIQ g3 g4 g5 x2
        go_wp2_with fail
        have B1:=Blk.new wr 91 #[.int .i64 s.kind, .int .i64 s.index, .slice As s.lits.length cs', .int .i64 (p:Int), .int .i64 (q:Int), .int .i64 s.var]
        generalize (wr.alloc (.cells #[.int .i64 s.kind, .int .i64 s.index, .slice As s.lits.length cs', .int .i64 (p:Int), .int .i64 (q:Int), .int .i64 s.var] 91))=W3 at *
        have r3:=B1.cell 3
        have r4:=B1.cell 4
        have r5:=B1.cell 5
        simp only [zA,zB,zC] at r3 r4 r5
        have hlt1:=B1.lt
        have HSOF:Hid (∀w',Below W3.heap.size W3 w'→w'.cell? ⟨wr.heap.size,3,none⟩=some (.int .i64 (p:Int))∧w'.cell? ⟨wr.heap.size,4,none⟩=some (.int .i64 (q:Int))∧w'.cell? ⟨wr.heap.size,5,none⟩=some (.int .i64 s.var)∧w'.cell? ⟨b,off+p,none⟩=some (.slice A1 P.length c1)∧w'.cell? ⟨b,off+q,none⟩=some (.slice A2 Q.length c2)) :=
         fun w' h=>⟨(h.cell (p:=⟨wr.heap.size,3,none⟩) hlt1).trans r3,(h.cell (p:=⟨wr.heap.size,4,none⟩) hlt1).trans r4,(h.cell (p:=⟨wr.heap.size,5,none⟩) hlt1).trans r5,(h.cell (p:=⟨b,off+p,none⟩) hb).trans hcellP,(h.cell (p:=⟨b,off+q,none⟩) hb).trans hcellQ⟩
        clear z0 z1 z2 z3 t0 t1 t2 t3 t4 t5 hcellP hcellQ r3 r4 r5 B1 e1 e2 e3 d1 d2 d3 d4 hp hq
        go_region_held3 (fun w'=>w'.cell? ⟨wr.heap.size,3,none⟩=some (.int .i64 (p:Int))∧w'.cell? ⟨wr.heap.size,4,none⟩=some (.int .i64 (q:Int))∧w'.cell? ⟨wr.heap.size,5,none⟩=some (.int .i64 s.var)∧w'.cell? ⟨b,off+p,none⟩=some (.slice A1 P.length c1)∧w'.cell? ⟨b,off+q,none⟩=some (.slice A2 Q.length c2)) (first|assumption|exact HSOF.out _ (zM _ _).drew) (first
         | (go_at_call 53;refine (nW _ _ P Q s.var _ (HIP.out.keep (zM _ _).drew) (HIQ.out.keep (zM _ _).drew) (by have:=HLP.out;omega) (by have:=HLQ.out;omega)).mono ?_;rintro e w4 ⟨v,rfl,h5,h6⟩;have hs4:=HSOF.out w4 (jK (zM _ _).drew h6)))
        have h5:Own w4 W3.heap.size v ((resE cs s).getD []):=by rw [HRE.out];exact h5
        rw [←HRE.out]
        have h6:Below W3.heap.size W3 w4:=jK (zM _ _).drew h6
        clear hs4
        have H5:=Lib.hid h5
        have H6:=Lib.hid (H3.out.keep h6)
        clear h5 h6
        cases hd:resE cs s with
        | none =>
         have HN:Hid (gE f [] l=(cs,false)):=by
          refine Lib.hid ?_
          rw [←HRUN.out];exact dF HLK.out (HDV.out.trans hd)
         clear hd
         simp only [kO]
         go_wp2_with fail
         go_ret2
         exact .inr ⟨by rw [HN.out],by rw [HN.out,HCK.out];rfl,H6.out.bl⟩
        | some d =>
         have HN:Hid (gE f (cs++[d]) (l.drop (k+1))=gE f [] l):=by
          refine Lib.hid ?_
          rw [←HRUN.out];exact eR HLK.out (HDV.out.trans hd)
         have HOC:=Lib.hid (iQ HV.out H3.out.ok (HDV.out.trans hd))
         rw [hd] at H5
         simp only [xQ,kP] at H5 ⊢
         obtain ⟨Ad,cd,hdv, -, -, -⟩:=wQ H5.out.1
         subst hdv
         clear hd
         go_wp2_with (at_builtin;refine zX _ rfl _ _ 27 rfl (w.heap.size+1) 33 iS (.slice none 0 0) 1 24 Try.underlying27 hiS hzS0 hzS1 hzS2 rfl (by decide) _ _ _ rfl (H6.out.om.1.alloc _) ⟨w4.heap.size,0,none⟩ 1 1 [.slice Ad d.length cd] rfl rfl (gN w4 _ _) ?d2 ?d3 ?d4 ?d5 ?_)
         case d2=>first|rfl|(intro u hu;simp at hu;subst hu;rfl)
         case d3=>have:=HUL.out;unfold maxLen;omega
         case d4=>have:=HUL.out;omega
         case d5=>have:=H6.out.hi;first|omega|(simp;omega)
         intro v' w5 hown' hgrow _ hat
         have H7:=Lib.hid (H3.out.push (fun g e=>by have:=HBS.out g e;have:=HSW.out;omega) H6.out H5.out HOC.out H3.out.hi hown' hgrow (by simpa using hat))
         obtain ⟨Ap,cp,hvp, -, -, -⟩:=wQ hown'
         subst hvp
         clear hown' hgrow hat
         go_wp2_with fail
         go_roundw
         case rel=>exact ⟨k+1,us++[.slice Ad d.length cd],cs++[d],by omega,by go_num,by simp [HCK.out],HN.out,H7.out⟩
         case measure=>simp [intOf];omega
       ·have d4:decide (s.q<(k:Int))=false:=by simp;omega
        have HN:Hid (gE f [] l=(cs,false)):=by
         refine Lib.hid ?_
         rw [←HRUN.out];exact dF HLK.out (HDV.out.trans (cY (by have:=HCK.out;omega)))
        clear p0 p1 q0 q1
        go_wp2_with fail
        go_ret2
        exact .inr ⟨by rw [HN.out],by rw [HN.out,HCK.out];rfl,H3.out.bl⟩
      ·have d3:decide (0≤s.q)=false:=by simp;omega
       have HN:Hid (gE f [] l=(cs,false)):=by
        refine Lib.hid ?_
        rw [←HRUN.out];exact dF HLK.out (HDV.out.trans (cY (by have:=HCK.out;omega)))
       clear p0 p1 q0
       go_wp2_with fail
       go_ret2
       exact .inr ⟨by rw [HN.out],by rw [HN.out,HCK.out];rfl,H3.out.bl⟩
     ·have d2:decide (s.p<(k:Int))=false:=by simp;omega
      have HN:Hid (gE f [] l=(cs,false)):=by
       refine Lib.hid ?_
       rw [←HRUN.out];exact dF HLK.out (HDV.out.trans (cY (by have:=HCK.out;omega)))
      clear p0 p1
      go_wp2_with fail
      go_ret2
      exact .inr ⟨by rw [HN.out],by rw [HN.out,HCK.out];rfl,H3.out.bl⟩
    ·have d1:decide (0≤s.p)=false:=by simp;omega
     have HN:Hid (gE f [] l=(cs,false)):=by
      refine Lib.hid ?_
      rw [←HRUN.out];exact dF HLK.out (HDV.out.trans (cY (by have:=HCK.out;omega)))
     clear p0
     go_wp2_with fail
     go_ret2
     exact .inr ⟨by rw [HN.out],by rw [HN.out,HCK.out];rfl,H3.out.bl⟩
   have e3:(s.kind == 3)=false:=by simp [k3]
   have HN:Hid (gE f [] l=(cs,false)):=by
    refine Lib.hid ?_
    rw [←HRUN.out];exact dF HLK.out (by unfold deriv;rw [if_neg k1,if_neg k2,if_neg k3])
   clear k1 k2 k3
   go_wp2_with fail
   go_ret2
   exact .inr ⟨by rw [HN.out],by rw [HN.out,HCK.out];rfl,H3.out.bl⟩
  ·have HN:Hid (gE f [] l=(cs,true)):=by refine Lib.hid ?_;rw [←HRUN.out];exact sE (by have:=HPL.out;omega)
   go_wp2_with fail
   go_ret2
   exact .inl ⟨by rw [HN.out],_,rfl,by rw [HN.out];exact H1.out.out⟩
end Go.Proofs.Yticieifacalocaa
