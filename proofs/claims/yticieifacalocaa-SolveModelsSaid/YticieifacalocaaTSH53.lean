/- Open OpenP MdW Fb -/
import Derived.ProofKit
import Derived.OpenShut
import Derived.Deep.Slices
import Derived.Deep.Fields
import Derived.Lib.SmallJoins
import Derived.SizedLaws
import Derived.WideKeyArgs
import Derived.Test.YticieifacalocaaTSH11
import Derived.Laws.IdiomArrays
import Derived.Deep.Onto
namespace Go.Proofs.Yticieifacalocaa
open Go.ChangeShapes Go.WideShapes Go.ChangeAt Go.RowKit Go.Deep Go.Joins
theorem list_of {α:Type} {n:Nat} {R:Nat→α→Prop} (h:∀i,i<n→∃a,R i a):∃xs:List α,xs.length=n∧∀i a,xs[i]? = some a→R i a:=by
 induction n with
 | zero=>exact ⟨[],rfl,fun i a h=>by simp at h⟩
 | succ n ih =>
  obtain ⟨xs,hl,hx⟩:=ih fun i hi=>h i (by omega)
  obtain ⟨a,ha⟩:=h n (by omega)
  refine ⟨xs++[a],by simp [hl],fun i b hb => ?_⟩
  rw [vV] at hb
  split at hb
  ·exact hx i b hb
  ·rename_i hi
   have:i=n:=by
    have:=(zG.1 hb).1
    simp at this;omega
   subst this
   simp [hl] at hb
   subst hb
   exact ha
theorem sK {α β:Type} {xs:List α} {g:α→List β} {k:Nat} (hk:∀a,(g a).length=k) {j:Nat} {u:β} (h:(xs.flatMap g)[j]? = some u) :
  ∃i a r,xs[i]? = some a∧(g a)[r]? = some u∧j=i * k+r∧r<k:=by
 induction xs generalizing j with
 | nil=>simp at h
 | cons a t ih =>
  rw [xT,vV] at h
  split at h
  ·rename_i hlt
   exact ⟨0,a,j,rfl,h,by omega,by rw [hk] at hlt;exact hlt⟩
  ·rename_i hge
   obtain ⟨i,b,r,h1,h2,h3,h4⟩:=ih h
   rw [hk] at hge h3
   exact ⟨i+1,b,r,by simpa using h1,h2,by rw [uO];omega,h4⟩
section
variable {H:Type} {enc:TypeId × Value→H} {P:Program} {w:World}
theorem iH {α:Type} {Q:α→DataW H→Prop} {g:α→List Value} {t e:TypeId} {fuel k:Nat} {v:Value} {x:DataW H × List MemPlace} (ht:P.underlying t=some (.slice e)) (hk:P.cellsOf e=k) (hk0:0<k) (hg:∀a,(g a).length=k)
  (conv:∀n cs y,DataW.trod enc P w 0 (fun _=>true) true n e cs=some y→∃a,cs=g a∧Q a y.1)
  (h:DataW.trod enc P w 0 (fun _=>true) true fuel t [v]=some x) :
  ∃(xs:List α) (A:Option Addr) (c:Nat) (D:Nat→DataW H),v = .slice A xs.length c∧xs.length≤c∧c≤maxLen∧Rd w A (xs.flatMap g)∧(∀i a,xs[i]? = some a→Q a (D i)) ∧
   (∀i,i<xs.length→∀n∈(D i).weights P e,n∈x.1.weights P t)∧(A=none∨∃n∈x.1.weights P t,n=c * P.bytesOf e):=by
 rcases open_slice ht h with ⟨h0,_⟩|⟨a,len,cap,m,n,D,Pl,hcs,_,hl,hm,hmm,hx,hi⟩
 ·injection h0 with h0
  subst h0
  exact ⟨[],none,0,fun _ => .nil,rfl,by simp,by simp [maxLen],Rd.nil _ _,by simp,by simp, .inl rfl⟩
 ·injection hcs with hcs
  subst hcs
  have hmc:m=cap:=by simpa using hmm
  subst hmc
  have key:∀i,i<len→∃b:α,Q b (D i)∧∀r u,(g b)[r]? = some u→w.cell? (a.add (i * k+r))=some u:=by
   intro i hil
   obtain ⟨cs',hc,htr⟩:=hi i (by omega)
   obtain ⟨b,hb,hQ⟩:=conv _ _ _ htr
   refine ⟨b,hQ,fun r u hu => ?_⟩
   obtain ⟨_,hcl,hat⟩:=World.cells?_some hc
   rw [hk] at hat hcl
   have hr:r<k:=by rw [←hg b];exact (zG.1 hu).1
   have:=hat r hr
   rw [Go.Deep.add_add] at this
   rw [this,hb]
   exact hu
  obtain ⟨xs,hxl,hxs⟩:=list_of key
  subst hxl
  refine ⟨xs,some a,m,D,rfl,hl,hm,?_,fun i b hb=>(hxs i b hb).1,fun i hil q hq => ?_, .inr ⟨_,?_,rfl⟩⟩
  ·intro hpos
   have hx0:0<xs.length:=by
    rcases xs with _|⟨y,ys⟩
    ·simp at hpos
    ·simp
   obtain ⟨b0,hb0⟩:∃b,xs[0]? = some b:=⟨_,List.getElem?_eq_getElem hx0⟩
   obtain ⟨u0,hu0⟩:∃u,(g b0)[0]? = some u:=⟨_,List.getElem?_eq_getElem (by rw [hg];exact hk0)⟩
   have hc0:=(hxs 0 b0 hb0).2 0 u0 hu0
   obtain ⟨b,off,spot⟩:=a
   have hspot:spot=none:=by simpa [Addr.add] using World.cell?_spot hc0
   subst hspot
   have hblk:=vI w _ hc0
   refine ⟨b,off,rfl,by simpa [Addr.add] using hblk,fun j u hu => ?_⟩
   obtain ⟨i,c,r,h1,h2,h3,h4⟩:=sK hg hu
   have:=(hxs i c h1).2 r u h2
   rw [h3,←Go.WideShapes.add_plain]
   exact this
  ·have hmem:D i∈(List.range xs.length).map D:=List.mem_map.2 ⟨i,List.mem_range.2 hil,rfl⟩
   have hall:∀l:List (DataW H),D i∈l→q∈DataW.weightsAll P e l:=by
    intro l hl
    induction l with
    | nil=>cases hl
    | cons d r ih =>
     rw [DataW.weightsAll,zK]
     rcases zV.1 hl with rfl|hl
     ·exact .inl hq
     ·exact .inr (ih hl)
   rw [hx]
   simp only [DataW.weights,ht,zV,zK]
   exact .inr (.inl (hall _ hmem))
  ·rw [hx]
   simp only [DataW.weights,ht,zV,List.length_map,List.length_range]
   left
   rw [show xs.length+(m-xs.length)=m by omega]
theorem i64_of_wf {n:Int} (h:(Lit.int .i64 n).wf=true):I64 n:=by
 simpa [Lit.wf,IntKind.min,IntKind.max,IntKind.signed,IntKind.bits,I64] using h
theorem bT {α:Type} (xs:List α) (g:α→Value):xs.flatMap (fun a=>[g a])=xs.map g:=by
 induction xs with
 | nil=>rfl
 | cons a r ih=>simp [ih]
theorem rd_ints {t e:TypeId} {fuel:Nat} {v:Value} {x:DataW H × List MemPlace} (ht:P.underlying t=some (.slice e)) (he:P.underlying e=some (.int .i64)) (hc:P.cellsOf e=1) (hby:P.bytesOf e=8)
  (h:DataW.trod enc P w 0 (fun _=>true) true fuel t [v]=some x):∃xs,Ints w v xs∧((∀n∈x.1.weights P t,n≤reachBytes)→xs.length≤17592186044416):=by
 obtain ⟨xs,A,c,D,rfl,h1,h2,h3,h4,_,h6⟩:=iH (α:=Int) (Q:=fun a _=>I64 a) (g:=fun a=>[.int .i64 a]) ht hc (by omega) (fun _=>rfl)
  (fun n cs y hy=>by obtain ⟨a,rfl,_,hw⟩:=kQ he hy;exact ⟨a,rfl,i64_of_wf hw⟩) h
 rw [bT] at h3
 refine ⟨xs,⟨A,c,rfl,h1,h2,fun x hx => ?_,h3⟩,fun hw => ?_⟩
 ·obtain ⟨i,hi,rfl⟩:=qL hx
  exact h4 i _ (List.getElem?_eq_getElem hi)
 ·rcases h6 with rfl|⟨n,hn,rfl⟩
  ·rcases Nat.eq_zero_or_pos xs.length with h0|h0
   ·omega
   ·obtain ⟨_,_,hA,_⟩:=h3 (by simpa using h0);cases hA
  ·have:=hw _ hn
   rw [hby] at this
   simp only [reachBytes] at this
   omega
theorem rd_bools {t e:TypeId} {fuel:Nat} {v:Value} {x:DataW H × List MemPlace} (ht:P.underlying t=some (.slice e)) (he:P.underlying e=some .bool) (hc:P.cellsOf e=1)
  (h:DataW.trod enc P w 0 (fun _=>true) true fuel t [v]=some x):∃xs,Bools w v xs:=by
 obtain ⟨xs,A,c,D,rfl,h1,h2,h3,_,_,_⟩:=iH (α:=Bool) (Q:=fun _ _=>True) (g:=fun a=>[.bool a]) ht hc (by omega) (fun _=>rfl)
  (fun n cs y hy=>by obtain ⟨a,rfl,_⟩:=DataW.trod_bool he hy;exact ⟨a,rfl,trivial⟩) h
 rw [bT] at h3
 exact ⟨xs,A,c,rfl,h1,h2,h3⟩
theorem v_one {b0 fuel:Nat} {t e:TypeId} {v:Value} {y:DataW H × List MemPlace} (_hv:Value.okWide P w .any b0 t v) (h:DataW.trod enc P w 0 (fun _=>true) true fuel t v.cells.toList=some y) (ht:P.underlying t=some (.slice e)) :
  DataW.trod enc P w 0 (fun _=>true) true fuel t [v]=some y:=by
 obtain ⟨a,l,c,rfl⟩:=okWide_slice ht _hv
 exact h
theorem mH {ts:List TypeId} {vs:List Value} {ds:List (DataW H)} {ps:List MemPlace} (hl:laidOutB P=true) (hr:∀t∈ts,P.readableRec t=true∧t<P.types.size) {W W':World} {sp:Nat→Bool}
  (h:DataW.TrodAll enc P W 0 (fun _=>true) true ts vs ds ps) (hsame:∀p∈ps,W.sameAt W' p) (hs:∀p∈ps,sp p.block=true):DataW.TrodAll enc P W' 0 sp true ts vs ds ps:=by
 induction ts generalizing vs ds ps with
 | nil=>cases vs<;>cases ds<;>simp_all [DataW.TrodAll]
 | cons t ts ih =>
  obtain ⟨v,vs',d,ds',p,q,rfl,rfl,rfl,h1,h2⟩:=trodAll_cons h
  obtain ⟨r1,r2⟩:=hr t (by simp)
  exact ⟨p,q,WideElems.Trod_stays hl r1 r2 h1 (fun x hx=>hsame x (by simp [hx])) (fun x hx=>hs x (by simp [hx])),ih (fun t ht=>hr t (by simp [ht])) h2 (fun x hx=>hsame x (by simp [hx])) (fun x hx=>hs x (by simp [hx])),rfl⟩
theorem law_post {f:Func} {s:ChangeSpec} {W W':World} {args:Array Value} {ds gs:List (DataW H)} {before:List MemPlace} {tb:TypeId} (hW:DataW.Whole enc P f.params.toList s.vars false W args.toList ds gs before)
  (hvars:s.vars=[]) (hres:f.resultTypes = #[tb]) (htb:P.underlying tb=some .bool) (hfn:s.fn H ds={ results:=[.lit (.bool true)],args:=ds })
  (hl:laidOutB P=true) (hr:∀t∈f.params.toList,P.readableRec t=true∧t<P.types.size) (hb:Below W.heap.size W W') :
  s.post enc P f false true false false W args (.bool true) W':=by
 have hlt:∀p∈before,p.block<W.heap.size:=fun p hp=>hW.lt p hp
 have hW':=hW
 obtain ⟨p,q,hA,hV,rfl,hz,hn⟩:=hW
 rw [hvars] at hV
 obtain ⟨rfl,rfl⟩:=trodVars_none hV
 simp only [yV] at *
 have hres1:∀(b:Nat) (sp:Nat→Bool) (hd:Bool),DataW.TrodAll enc P W' b sp hd f.resultTypes.toList ((Value.bool true).resultList f.resultTypes.size) (s.fn H (ds++[])).results []:=by
  intro b sp hd
  rw [yV,hfn,hres]
  exact trodAll_cons_mk (shut_bool htb _) trodAll_mk0
 have hargs:∀sp:Nat→Bool,(∀x∈p,sp x.block=true)→DataW.TrodAll enc P W' 0 sp true f.params.toList args.toList (s.fn H (ds++[])).args p:=by
  intro sp hsp
  rw [yV,hfn]
  exact mH hl hr hA (fun x hx=>hb.same (hlt x hx)) hsp
 have hvs:∀sp:Nat→Bool,DataW.TrodVars enc P W' sp s.vars (s.fn H (ds++[])).vars []:=by
  intro sp
  rw [yV,hfn,hvars]
  rfl
 refine ⟨ds,[],p,[],p,[],hW',hres1 _ _ _,hargs _ (fun x hx=>by simpa using hlt x hx),hvs _,World.keptBut_mono (fun x hx=>⟨hx,?_⟩) (hb.frame (· ∈ p)),fun h=>by cases h⟩
 exact Or.inr (Or.inl hx)
end
open Go.ChangeShapes Go.WideShapes Go.ChangeAt Go.RowKit Go.Deep Go.Joins
section
variable {H:Type} {enc:TypeId × Value→H} {P:Program} {w:World}
theorem eJ {n:Int} (h:(Lit.int .u8 n).wf=true):0≤n∧n≤255:=by
 simpa [Lit.wf,IntKind.min,IntKind.max,IntKind.signed,IntKind.bits] using h
theorem rd_byts {t e:TypeId} {fuel:Nat} {v:Value} {x:DataW H × List MemPlace} (ht:P.underlying t=some (.slice e)) (he:P.underlying e=some (.int .u8)) (hc:P.cellsOf e=1)
  (h:DataW.trod enc P w 0 (fun _=>true) true fuel t [v]=some x):∃xs,Byts w v xs:=by
 obtain ⟨xs,A,c,D,rfl,h1,h2,h3,h4,_,_⟩:=iH (α:=Int) (Q:=fun a _=>0≤a∧a≤255) (g:=fun a=>[.int .u8 a]) ht hc (by omega) (fun _=>rfl)
  (fun n cs y hy=>by obtain ⟨a,rfl,_,hw⟩:=kQ he hy;exact ⟨a,rfl,eJ hw⟩) h
 rw [bT] at h3
 refine ⟨xs,A,c,rfl,h1,h2,fun x hx => ?_,h3⟩
 obtain ⟨i,hi,rfl⟩:=qL hx
 exact h4 i _ (List.getElem?_eq_getElem hi)
set_option maxRecDepth 100000 in
theorem rd_prob {b0:Nat} {W:World} {v:Value} {d:DataW H} {p:List MemPlace} (hv:Value.okWide Try.prog W .any b0 25 v) (h:DataW.Trod enc Try.prog W 0 (fun _=>true) true 25 v d p) :
  ∃a b c L,sG W v a b c L:=by
 obtain ⟨cs,rfl,hsz⟩:=okWide_struct Try.underlying25 hv
 rw [show Try.prog.cellsOf 25=4 by kernel_rfl] at hsz
 obtain ⟨c0,c1,c2,c3,rfl⟩:∃c0 c1 c2 c3,cs = #[c0,c1,c2,c3]:=by
  match cs,hsz with
  | ⟨[c0,c1,c2,c3]⟩,_=>exact ⟨c0,c1,c2,c3,rfl⟩
 obtain ⟨fuel,hf⟩:=h
 obtain ⟨y0,y1,n,_,_,h0,h1⟩:=trod_struct2 Try.underlying25 hf
 have h0':DataW.trod enc Try.prog W 0 (fun _=>true) true n 22 [c0,c1,c2]=some y0:=by
  rw [show Try.prog.cellsOf 22=3 by kernel_rfl] at h0
  exact h0
 have h1':DataW.trod enc Try.prog W 0 (fun _=>true) true n 23 [c3]=some y1:=by
  rw [show Try.prog.cellsOf 23=1 by kernel_rfl] at h1
  exact h1
 obtain ⟨z0,z1,z2,m,_,g0,g1,g2⟩:=trod_array3 Try.underlying22 (by kernel_rfl) h0'
 obtain ⟨a,ea,_,wa⟩:=kQ Try.underlying5 g0
 obtain ⟨b,eb,_,wb⟩:=kQ Try.underlying5 g1
 obtain ⟨c,ec,_,wc⟩:=kQ Try.underlying5 g2
 injection ea with ea
 injection eb with eb
 injection ec with ec
 subst ea eb ec
 obtain ⟨L,hL⟩:=rd_byts Try.underlying23 Try.underlying5 (by kernel_rfl) h1'
 exact ⟨a,b,c,L,c3,rfl,eJ wa,eJ wb,eJ wc,hL⟩
end
open Go.ChangeShapes Go.WideShapes Go.ChangeAt Go.RowKit Go.Deep Go.Joins
def I8s (w:World) (v:Value) (xs:List Int):Prop :=
 ∃A c,v = .slice A xs.length c∧xs.length≤c∧c≤maxLen∧(∀x∈xs, -128≤x∧x≤127)∧Rd w A (xs.map (Value.int .i8))
theorem I8s.keep {w w':World} {v:Value} {xs:List Int} (h:I8s w v xs) (hb:Below w.heap.size w w'):I8s w' v xs:=by
 obtain ⟨A,c,h1,h2,h3,h4,h5⟩:=h
 exact ⟨A,c,h1,h2,h3,h4,h5.keep hb⟩
section
variable {H:Type} {enc:TypeId × Value→H} {P:Program} {w:World}
theorem i8_of_wf {n:Int} (h:(Lit.int .i8 n).wf=true) : -128≤n∧n≤127:=by
 simpa [Lit.wf,IntKind.min,IntKind.max,IntKind.signed,IntKind.bits] using h
theorem rd_i8s {t e:TypeId} {fuel:Nat} {v:Value} {x:DataW H × List MemPlace} (ht:P.underlying t=some (.slice e)) (he:P.underlying e=some (.int .i8)) (hc:P.cellsOf e=1)
  (h:DataW.trod enc P w 0 (fun _=>true) true fuel t [v]=some x):∃xs,I8s w v xs:=by
 obtain ⟨xs,A,c,D,rfl,h1,h2,h3,h4,_,_⟩:=iH (α:=Int) (Q:=fun a _ => -128≤a∧a≤127) (g:=fun a=>[.int .i8 a]) ht hc (by omega) (fun _=>rfl)
  (fun n cs y hy=>by obtain ⟨a,rfl,_,hw⟩:=kQ he hy;exact ⟨a,rfl,i8_of_wf hw⟩) h
 rw [bT] at h3
 refine ⟨xs,A,c,rfl,h1,h2,fun x hx => ?_,h3⟩
 obtain ⟨i,hi,rfl⟩:=qL hx
 exact h4 i _ (List.getElem?_eq_getElem hi)
end
open Go.RowKit
structure MD (w wr:World) (nb ni gm gb gx:Nat) (bs:List Bool) (xs:List Int):Prop where
 m:Blk wr gm 35 #[.slice (some ⟨gb,0,none⟩) nb nb, .slice (some ⟨gx,0,none⟩) ni ni]
 b:Blk wr gb 4 (eZ bs)
 x:Blk wr gx 3 (bU xs)
 n1:gb≠gx
 n2:gb≠gm
 n3:gx≠gm
 l1:w.heap.size≤gm
 l2:w.heap.size≤gb
 l3:w.heap.size≤gx
 bl:Below w.heap.size w wr
section
variable {w wr w':World} {nb ni gm gb gx:Nat} {bs:List Bool} {xs:List Int}
theorem MD.setB (h:MD w wr nb ni gm gb gx bs xs) (k:Nat) (a:Bool):MD w (wr.setCell ⟨gb,k,none⟩ (.bool a)) nb ni gm gb gx (bs.set k a) xs:=by
 have hs:wr.grownBy (wr.setCell ⟨gb,k,none⟩ (.bool a)) (some gb):=jY _ _ _ _
 exact ⟨h.m.grown hs (by have:=h.n2;simp;omega),h.b.setB k a,h.x.grown hs (by have:=h.n1;simp;omega),h.n1,h.n2,h.n3,h.l1,h.l2,h.l3,h.bl.grown hs h.bl.size fun g e=>by injection e with e;have:=h.l2;omega⟩
theorem MD.setX (h:MD w wr nb ni gm gb gx bs xs) (k:Nat) (a:Int):MD w (wr.setCell ⟨gx,k,none⟩ (.int .i64 a)) nb ni gm gb gx bs (xs.set k a):=by
 have hs:wr.grownBy (wr.setCell ⟨gx,k,none⟩ (.int .i64 a)) (some gx):=jY _ _ _ _
 exact ⟨h.m.grown hs (by have:=h.n3;simp;omega),h.b.grown hs (by have:=h.n1;simp;omega),h.x.setI k a,h.n1,h.n2,h.n3,h.l1,h.l2,h.l3,h.bl.grown hs h.bl.size fun g e=>by injection e with e;have:=h.l3;omega⟩
theorem MD.drewN (h:MD w wr nb ni gm gb gx bs xs) (n:Nat):MD w (wr.drewN n) nb ni gm gb gx bs xs:=⟨h.m.drewN n,h.b.drewN n,h.x.drewN n,h.n1,h.n2,h.n3,h.l1,h.l2,h.l3,aW h.bl n⟩
end
theorem three (w0:World) (A B C:Array Value) (ta tb tc:TypeId):Blk (((w0.alloc (.cells A ta)).alloc (.cells B tb)).alloc (.cells C tc)).drew w0.heap.size ta A∧Blk (((w0.alloc (.cells A ta)).alloc (.cells B tb)).alloc (.cells C tc)).drew (w0.heap.size+1) tb B ∧
  Blk (((w0.alloc (.cells A ta)).alloc (.cells B tb)).alloc (.cells C tc)).drew (w0.heap.size+1+1) tc C∧Below w0.heap.size w0 (((w0.alloc (.cells A ta)).alloc (.cells B tb)).alloc (.cells C tc)).drew:=by
 have h1:=Blk.new (w0.alloc (.cells A ta)) tb B
 have h2:=Blk.new ((w0.alloc (.cells A ta)).alloc (.cells B tb)) tc C
 rw [show (w0.alloc (.cells A ta)).heap.size=w0.heap.size+1 by simp] at h1
 rw [show ((w0.alloc (.cells A ta)).alloc (.cells B tb)).heap.size=w0.heap.size+1+1 by simp] at h2
 exact ⟨(((Blk.new w0 ta A).alloc _).alloc _).drew,(h1.alloc _).drew,h2.drew,((((zR _ _).alloc (Nat.le_refl _) _).alloc (by simp) _).alloc (by simp;omega) _).drew⟩
structure FR (wr:World) (gk X:Nat) (ds:List Diff) (av cv:Value) (us:List Value) (xss:List (List Int)):Prop where
 a:wr.ownsRow (gk+1) 50 3 av ds.length (ds.flatMap Diff.cells)
 m:OwnMat wr (gk+1) (fun b=>(gk<b∧b≠X)∧some b≠av.ownBlock) cv us xss
 ne:av.ownBlock=none∨av.ownBlock≠cv.ownBlock
 d:∀d∈ds,d.ok
 ax:av.ownBlock≠some X
 cx:cv.ownBlock≠some X
section
variable {w0 w1 wr w':World} {gk X c g j:Nat} {ints bools:Int} {ds:List Diff} {av cv:Value} {us:List Value} {xss:List (List Int)} {A dp:Option Addr}
theorem FR.keep (h:FR wr gk X ds av cv us xss) (hb:Below wr.heap.size wr w'):FR w' gk X ds av cv us xss:=⟨gS h.a hb,h.m.keep hb,h.ne,h.d,h.ax,h.cx⟩
theorem FR.form (h:FR wr gk X ds av cv us xss) (h1:I64 ints) (h2:I64 bools):IsForm wr (.agg #[.int .i64 ints, .int .i64 bools,av,cv]) ⟨ints,bools,ds,xss⟩ :=
 ⟨av,cv,rfl,h1,h2,cK h.a h.d,h.m.mat⟩
theorem FR.setC {u:Value} {xs:List Int} (h:FR wr gk X ds av (.slice (some ⟨g,0,none⟩) us.length c) us xss) (hb:Below wr.heap.size wr w1) (hu:IntsO w1 (fun b=>wr.heap.size≤b) u xs) (hX:X<wr.heap.size) (j:Nat) :
  FR (w1.setCell ⟨g,j,none⟩ u) gk X ds av (.slice (some ⟨g,0,none⟩) us.length c) (us.set j u) (xss.set j xs):=by
 have hs:=hb.size
 have h1:=h.keep hb
 have hg:=h.m.1.lt g rfl
 have hal:∀b,av.ownBlock=some b→b<wr.heap.size:=fun b e=>(h.a.lt b e).2
 obtain ⟨hst,hgr⟩:=h1.m.1.stored j u
 have key:∀{v:Value} {ys:List Int},IntsO w1 (fun b=>((gk<b∧b≠X)∧some b≠av.ownBlock)∧some b≠some g) v ys→IntsO (w1.setCell ⟨g,j,none⟩ u) (fun b=>((gk<b∧b≠X)∧some b≠av.ownBlock)∧some b≠(Value.slice (some ⟨g,0,none⟩) us.length c).ownBlock) v ys:=fun hv=>hv.grown hgr fun b hb=>hb.2
 have hne:av.ownBlock=none∨av.ownBlock≠some g:=h.ne
 refine ⟨h1.a.kept hgr hne,⟨?_,?_,?_⟩,h.ne,h.d,h.ax,h.cx⟩
 ·rw [zX];exact hst
 ·rw [zX,zX];exact h.m.2.1
 ·intro i v ys hv hy
  by_cases hi:i=j
  ·subst hi
   rw [kM] at hv hy
   rw [if_pos rfl] at hv hy
   split at hv
   ·rename_i hl
    rw [if_pos (by rw [←h.m.2.1];exact hl)] at hy
    injection hv with hv
    injection hy with hy
    subst hv hy
    exact key (hu.mono fun b _ hb=>⟨⟨⟨by omega,by omega⟩,fun e=>by have:=hal b e.symm;omega⟩,fun e=>by injection e;omega⟩)
   ·cases hv
  ·rw [yQ (kY hi)] at hv hy
   exact key (h1.m.2.2 i v ys hv hy)
theorem FR.of {b B:Nat} (ho:wr.ownsRow (b+1) 50 3 av ds.length (ds.flatMap Diff.cells)) (hm:OwnMat wr B (fun x=>B≤x) cv us xss) (hav:∀g,av.ownBlock=some g→g<B) (hB:b+1≤B) (hd:∀d∈ds,d.ok) (hX:X≤b):FR wr b X ds av cv us xss:=by
 refine ⟨ho,⟨World.ownsRow.mono hm.1 hB,hm.2.1,fun j u xs h1 h2=>(hm.2.2 j u xs h1 h2).mono fun x _ hx=>⟨⟨⟨by omega,by omega⟩,fun e=>by have:=hav x e.symm;omega⟩,hx.2⟩⟩,?_,hd,fun e => ?_,fun e => ?_⟩
 ·cases e:av.ownBlock with
  | none=>exact .inl rfl
  | some g=>right;intro e2;have h1:=hav g e;have h2:=(hm.1.lt g e2.symm).1;omega
 ·have:=(ho.lt X e).1;omega
 ·have:=(hm.1.lt X e).1;omega
end
end Go.Proofs.Yticieifacalocaa
