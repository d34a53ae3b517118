/- Open Open31 Ok Rows2 -/
import Derived.Test.YticieifacalocaaPB1
import Derived.ProofKit
import Derived.OpenShut
import Derived.Deep.Slices
import Derived.Deep.Fields
import Derived.Lib.SmallJoins
import Derived.SizedLaws
import Derived.WideKeyArgs
import Derived.Sort.Grow
import Derived.Shelf.GgSortFunc.Compose
import Derived.Maps.AppendAt
import Derived.ArgAppend
namespace Go.Proofs.Yticieifacalocaa
open Go.ChangeShapes Go.WideShapes Go.ChangeAt Go.RowKit Go.Deep Go.Joins
theorem list_of {α:Type} {n:Nat} {R:Nat→α→Prop} (h:∀i,i<n→∃a,R i a):∃xs:List α,xs.length=n∧∀i a,xs[i]? = some a→R i a:=by
 induction n with
 | zero=>exact ⟨[],rfl,fun i a h=>by simp at h⟩
 | succ n ih =>
  obtain ⟨xs,hl,hx⟩:=ih fun i hi=>h i (by omega)
  obtain ⟨a,ha⟩:=h n (by omega)
  refine ⟨xs++[a],by simp [hl],fun i b hb => ?_⟩
  rw [List.getElem?_append] at hb
  split at hb
  ·exact hx i b hb
  ·rename_i hi
   have:i=n:=by
    have:=(List.getElem?_eq_some_iff.1 hb).1
    simp at this;omega
   subst this
   simp [hl] at hb
   subst hb
   exact ha
theorem flatMap_at {α β:Type} {xs:List α} {g:α→List β} {k:Nat} (hk:∀a,(g a).length=k) {j:Nat} {u:β} (h:(xs.flatMap g)[j]? = some u) :
  ∃i a r,xs[i]? = some a∧(g a)[r]? = some u∧j=i * k+r∧r<k:=by
 induction xs generalizing j with
 | nil=>simp at h
 | cons a t ih =>
  rw [List.flatMap_cons,List.getElem?_append] at h
  split at h
  ·rename_i hlt
   exact ⟨0,a,j,rfl,h,by omega,by rw [hk] at hlt;exact hlt⟩
  ·rename_i hge
   obtain ⟨i,b,r,h1,h2,h3,h4⟩:=ih h
   rw [hk] at hge h3
   exact ⟨i+1,b,r,by simpa using h1,h2,by rw [Nat.succ_mul];omega,h4⟩
section
variable {H:Type} {enc:TypeId × Value→H} {P:Program} {w:World}
theorem open_sl {α:Type} {Q:α→DataW H→Prop} {g:α→List Value} {t e:TypeId} {fuel k:Nat} {v:Value} {x:DataW H × List MemPlace} (ht:P.underlying t=some (.slice e)) (hk:P.cellsOf e=k) (hk0:0<k) (hg:∀a,(g a).length=k)
  (conv:∀n cs y,DataW.trod enc P w 0 (fun _=>true) true n e cs=some y→∃a,cs=g a∧Q a y.1)
  (h:DataW.trod enc P w 0 (fun _=>true) true fuel t [v]=some x) :
  ∃(xs:List α) (A:Option Addr) (c:Nat) (D:Nat→DataW H),v = .slice A xs.length c∧xs.length≤c∧c≤maxLen∧Rd w A (xs.flatMap g)∧(∀i a,xs[i]? = some a→Q a (D i)) ∧
   (∀i,i<xs.length→∀n∈(D i).weights P e,n∈x.1.weights P t)∧(A=none∨∃n∈x.1.weights P t,n=c * P.bytesOf e):=by
 rcases open_slice ht h with ⟨h0,_⟩|⟨a,len,cap,m,n,D,Pl,hcs,_,hl,hm,hmm,hx,hi⟩
 ·injection h0 with h0
  subst h0
  exact ⟨[],none,0,fun _ => .nil,rfl,by simp,by simp [maxLen],Rd.nil _ _,by simp,by simp, .inl rfl⟩
 ·injection hcs with hcs
  subst hcs
  have hmc:m=cap:=by simpa using hmm
  subst hmc
  have key:∀i,i<len→∃b:α,Q b (D i)∧∀r u,(g b)[r]? = some u→w.cell? (a.add (i * k+r))=some u:=by
   intro i hil
   obtain ⟨cs',hc,htr⟩:=hi i (by omega)
   obtain ⟨b,hb,hQ⟩:=conv _ _ _ htr
   refine ⟨b,hQ,fun r u hu => ?_⟩
   obtain ⟨_,hcl,hat⟩:=World.cells?_some hc
   rw [hk] at hat hcl
   have hr:r<k:=by rw [←hg b];exact (List.getElem?_eq_some_iff.1 hu).1
   have:=hat r hr
   rw [Go.Deep.add_add] at this
   rw [this,hb]
   exact hu
  obtain ⟨xs,hxl,hxs⟩:=list_of key
  subst hxl
  refine ⟨xs,some a,m,D,rfl,hl,hm,?_,fun i b hb=>(hxs i b hb).1,fun i hil q hq => ?_, .inr ⟨_,?_,rfl⟩⟩
  ·intro hpos
   have hx0:0<xs.length:=by
    rcases xs with _|⟨y,ys⟩
    ·simp at hpos
    ·simp
   obtain ⟨b0,hb0⟩:∃b,xs[0]? = some b:=⟨_,List.getElem?_eq_getElem hx0⟩
   obtain ⟨u0,hu0⟩:∃u,(g b0)[0]? = some u:=⟨_,List.getElem?_eq_getElem (by rw [hg];exact hk0)⟩
   have hc0:=(hxs 0 b0 hb0).2 0 u0 hu0
   obtain ⟨b,off,spot⟩:=a
   have hspot:spot=none:=by simpa [Addr.add] using World.cell?_spot hc0
   subst hspot
   have hblk:=World.block_lt_of_cell? w _ hc0
   refine ⟨b,off,rfl,by simpa [Addr.add] using hblk,fun j u hu => ?_⟩
   obtain ⟨i,c,r,h1,h2,h3,h4⟩:=flatMap_at hg hu
   have:=(hxs i c h1).2 r u h2
   rw [h3,←Go.WideShapes.add_plain]
   exact this
  ·have hmem:D i∈(List.range xs.length).map D:=List.mem_map.2 ⟨i,List.mem_range.2 hil,rfl⟩
   have hall:∀l:List (DataW H),D i∈l→q∈DataW.weightsAll P e l:=by
    intro l hl
    induction l with
    | nil=>cases hl
    | cons d r ih =>
     rw [DataW.weightsAll,List.mem_append]
     rcases List.mem_cons.1 hl with rfl|hl
     ·exact .inl hq
     ·exact .inr (ih hl)
   rw [hx]
   simp only [DataW.weights,ht,List.mem_cons,List.mem_append]
   exact .inr (.inl (hall _ hmem))
  ·rw [hx]
   simp only [DataW.weights,ht,List.mem_cons,List.length_map,List.length_range]
   left
   rw [show xs.length+(m-xs.length)=m by omega]
theorem i64_of_wf {n:Int} (h:(Lit.int .i64 n).wf=true):I64 n:=by
 simpa [Lit.wf,IntKind.min,IntKind.max,IntKind.signed,IntKind.bits,I64] using h
theorem flatMap_one {α:Type} (xs:List α) (g:α→Value):xs.flatMap (fun a=>[g a])=xs.map g:=by
 induction xs with
 | nil=>rfl
 | cons a r ih=>simp [ih]
theorem rd_ints {t e:TypeId} {fuel:Nat} {v:Value} {x:DataW H × List MemPlace} (ht:P.underlying t=some (.slice e)) (he:P.underlying e=some (.int .i64)) (hc:P.cellsOf e=1) (hby:P.bytesOf e=8)
  (h:DataW.trod enc P w 0 (fun _=>true) true fuel t [v]=some x):∃xs,Ints w v xs∧((∀n∈x.1.weights P t,n≤reachBytes)→xs.length≤17592186044416):=by
 obtain ⟨xs,A,c,D,rfl,h1,h2,h3,h4,_,h6⟩:=open_sl (α:=Int) (Q:=fun a _=>I64 a) (g:=fun a=>[.int .i64 a]) ht hc (by omega) (fun _=>rfl)
  (fun n cs y hy=>by obtain ⟨a,rfl,_,hw⟩:=DataW.trod_int he hy;exact ⟨a,rfl,i64_of_wf hw⟩) h
 rw [flatMap_one] at h3
 refine ⟨xs,⟨A,c,rfl,h1,h2,fun x hx => ?_,h3⟩,fun hw => ?_⟩
 ·obtain ⟨i,hi,rfl⟩:=List.getElem_of_mem hx
  exact h4 i _ (List.getElem?_eq_getElem hi)
 ·rcases h6 with rfl|⟨n,hn,rfl⟩
  ·rcases Nat.eq_zero_or_pos xs.length with h0|h0
   ·omega
   ·obtain ⟨_,_,hA,_⟩:=h3 (by simpa using h0);cases hA
  ·have:=hw _ hn
   rw [hby] at this
   simp only [reachBytes] at this
   omega
theorem rd_diff {e:TypeId} {f0 f1 f2:Field} {n:Nat} {cs:List Value} {y:DataW H × List MemPlace} (he:P.underlying e=some (.struct #[f0,f1,f2])) (hone:oneCellFields P #[f0,f1,f2]=true) (hC:P.cellsOf e=3)
  (i0:P.underlying f0.type=some (.int .i64)) (i1:P.underlying f1.type=some (.int .i64)) (i2:P.underlying f2.type=some (.int .i64))
  (h:DataW.trod enc P w 0 (fun _=>true) true n e cs=some y):∃d:Diff,cs=d.cells∧d.ok:=by
 obtain ⟨xs,n',_,_,hlen,hxl,hf⟩:=DataW.trod_struct he h
 rw [hC] at hlen
 obtain ⟨o0,k0⟩:=hone_of hone 0 f0 rfl
 obtain ⟨o1,k1⟩:=hone_of hone 1 f1 rfl
 obtain ⟨o2,k2⟩:=hone_of hone 2 f2 rfl
 match cs,hlen with
 | [c0,c1,c2],_ =>
  have g0:=hf 0 f0 rfl
  have g1:=hf 1 f1 rfl
  have g2:=hf 2 f2 rfl
  rw [o0,k0] at g0
  rw [o1,k1] at g1
  rw [o2,k2] at g2
  match xs,hxl with
  | [x0,x1,x2],_ =>
   obtain ⟨a,e0,_,w0⟩:=DataW.trod_int i0 g0
   obtain ⟨b,e1,_,w1⟩:=DataW.trod_int i1 g1
   obtain ⟨c,e2,_,w2⟩:=DataW.trod_int i2 g2
   simp at e0 e1 e2
   subst e0 e1 e2
   exact ⟨⟨a,b,c⟩,rfl,i64_of_wf w0,i64_of_wf w1,i64_of_wf w2⟩
theorem rd_diffs {t e:TypeId} {f0 f1 f2:Field} {fuel:Nat} {v:Value} {x:DataW H × List MemPlace} (ht:P.underlying t=some (.slice e)) (he:P.underlying e=some (.struct #[f0,f1,f2])) (hone:oneCellFields P #[f0,f1,f2]=true) (hC:P.cellsOf e=3)
  (hby:P.bytesOf e=24) (i0:P.underlying f0.type=some (.int .i64)) (i1:P.underlying f1.type=some (.int .i64)) (i2:P.underlying f2.type=some (.int .i64))
  (h:DataW.trod enc P w 0 (fun _=>true) true fuel t [v]=some x):∃ds,Diffs w v ds∧((∀n∈x.1.weights P t,n≤reachBytes)→ds.length≤17592186044416):=by
 obtain ⟨xs,A,c,D,rfl,h1,h2,h3,h4,_,h6⟩:=open_sl (α:=Diff) (Q:=fun a _=>a.ok) (g:=Diff.cells) ht hC (by omega) (fun _=>rfl)
  (fun n cs y hy=>rd_diff he hone hC i0 i1 i2 hy) h
 refine ⟨xs,⟨A,c,rfl,h1,h2,fun x hx => ?_,h3⟩,fun hw => ?_⟩
 ·obtain ⟨i,hi,rfl⟩:=List.getElem_of_mem hx
  exact h4 i _ (List.getElem?_eq_getElem hi)
 ·rcases h6 with rfl|⟨n,hn,rfl⟩
  ·rcases xs with _|⟨y,ys⟩
   ·simp
   ·obtain ⟨_,_,hA,_⟩:=h3 (by simp [Diff.cells]);cases hA
  ·have:=hw _ hn
   rw [hby] at this
   simp only [reachBytes] at this
   omega
theorem rd_mat {t e e2:TypeId} {fuel:Nat} {v:Value} {x:DataW H × List MemPlace} (ht:P.underlying t=some (.slice e)) (he:P.underlying e=some (.slice e2)) (he2:P.underlying e2=some (.int .i64)) (hc:P.cellsOf e=1) (hc2:P.cellsOf e2=1)
  (hby:P.bytesOf e=24) (hby2:P.bytesOf e2=8) (h:DataW.trod enc P w 0 (fun _=>true) true fuel t [v]=some x) :
  ∃xss,Mat w v xss∧((∀n∈x.1.weights P t,n≤reachBytes)→xss.length≤17592186044416∧∀xs∈xss,xs.length≤17592186044416):=by
 obtain ⟨ys,A,c,D,rfl,h1,h2,h3,h4,h5,h6⟩:=open_sl (α:=Value × List Int) (Q:=fun a d=>Ints w a.1 a.2∧((∀n∈d.weights P e,n≤reachBytes)→a.2.length≤17592186044416)) (g:=fun a=>[a.1]) ht hc (by omega) (fun _=>rfl)
  (fun n cs y hy=>by
   obtain ⟨v',hv'⟩:∃v',cs=[v']:=by
    rcases DataW.trod_slice he hy with ⟨h0,_⟩|⟨a,len,cap,elems,rest,n,_,hcs,_⟩
    ·exact ⟨_,h0⟩
    ·exact ⟨_,hcs⟩
   subst hv'
   obtain ⟨xs,hx,hw⟩:=rd_ints he he2 hc2 hby2 hy
   exact ⟨(v',xs),rfl,hx,hw⟩) h
 rw [flatMap_one] at h3
 refine ⟨ys.map (·.2),⟨A,c,ys.map (·.1),by simp,by simpa using h1,h2,by simp,h3,fun k u xs hu hx => ?_⟩,fun hw=>⟨?_,fun xs hx => ?_⟩⟩
 ·rw [List.getElem?_map] at hu hx
  cases hy:ys[k]? with
  | none=>rw [hy] at hu;cases hu
  | some y =>
   rw [hy] at hu hx
   simp at hu hx
   subst hu hx
   exact (h4 k y hy).1
 ·rcases h6 with rfl|⟨n,hn,rfl⟩
  ·rcases ys with _|⟨y,ys⟩
   ·simp
   ·obtain ⟨_,_,hA,_⟩:=h3 (by simp);cases hA
  ·have:=hw _ hn
   rw [hby] at this
   simp only [reachBytes] at this
   simp
   omega
 ·obtain ⟨y,hy,rfl⟩:=List.mem_map.1 hx
  obtain ⟨i,hi,rfl⟩:=List.getElem_of_mem hy
  exact (h4 i _ (List.getElem?_eq_getElem hi)).2 fun n hn=>hw n (h5 i hi n hn)
theorem rd_int {t:TypeId} {fuel:Nat} {v:Value} {x:DataW H × List MemPlace} (ht:P.underlying t=some (.int .i64)) (h:DataW.trod enc P w 0 (fun _=>true) true fuel t [v]=some x):∃n,v = .int .i64 n∧I64 n:=by
 obtain ⟨n,hv,_,hw⟩:=DataW.trod_int ht h
 injection hv with hv
 exact ⟨n,hv,i64_of_wf hw⟩
theorem weights_part {t:TypeId} {fs:Array Field} {parts:List (DataW H)} {j:Nat} {f:Field} {d:DataW H} (ht:P.underlying t=some (.struct fs)) (hf:fs[j]? = some f) (hd:parts[j]? = some d)
  {M:Nat} (hw:∀n∈(DataW.agg parts).weights P t,n≤M):∀n∈d.weights P f.type,n≤M:=by
 intro n hn
 refine hw n ?_
 simp only [DataW.weights,ht]
 exact DataW.weights_mem_each (by rw [List.getElem?_map,Array.getElem?_toList,hf];rfl) hd n hn
theorem v_one {b0 fuel:Nat} {t e:TypeId} {v:Value} {y:DataW H × List MemPlace} (_hv:Value.okWide P w .any b0 t v) (h:DataW.trod enc P w 0 (fun _=>true) true fuel t v.cells.toList=some y) (ht:P.underlying t=some (.slice e)) :
  DataW.trod enc P w 0 (fun _=>true) true fuel t [v]=some y:=by
 obtain ⟨a,l,c,rfl⟩:=okWide_slice ht _hv
 exact h
theorem weights_arg {ts vs:List TypeId} {ds gs:List (DataW H)} (h:(DataW.weightsEach P (ts++vs) (ds++gs)).all (· ≤ reachBytes)=true) {j:Nat} {t:TypeId} {d:DataW H} (ht:ts[j]? = some t) (hd:ds[j]? = some d) :
  ∀n∈d.weights P t,n≤reachBytes:=by
 intro n hn
 have h1:(ts++vs)[j]? = some t:=by rw [List.getElem?_append_left (List.getElem?_eq_some_iff.1 ht).1];exact ht
 have h2:(ds++gs)[j]? = some d:=by rw [List.getElem?_append_left (List.getElem?_eq_some_iff.1 hd).1];exact hd
 simpa using List.all_eq_true.1 h n (DataW.weights_mem_each h1 h2 n hn)
theorem trodAll_stays {ts:List TypeId} {vs:List Value} {ds:List (DataW H)} {ps:List MemPlace} (hl:laidOutB P=true) (hr:∀t∈ts,P.readableRec t=true∧t<P.types.size) {W W':World} {sp:Nat→Bool}
  (h:DataW.TrodAll enc P W 0 (fun _=>true) true ts vs ds ps) (hsame:∀p∈ps,W.sameAt W' p) (hs:∀p∈ps,sp p.block=true):DataW.TrodAll enc P W' 0 sp true ts vs ds ps:=by
 induction ts generalizing vs ds ps with
 | nil=>cases vs<;>cases ds<;>simp_all [DataW.TrodAll]
 | cons t ts ih =>
  obtain ⟨v,vs',d,ds',p,q,rfl,rfl,rfl,h1,h2⟩:=trodAll_cons h
  obtain ⟨r1,r2⟩:=hr t (by simp)
  exact ⟨p,q,WideElems.Trod_stays hl r1 r2 h1 (fun x hx=>hsame x (by simp [hx])) (fun x hx=>hs x (by simp [hx])),ih (fun t ht=>hr t (by simp [ht])) h2 (fun x hx=>hsame x (by simp [hx])) (fun x hx=>hs x (by simp [hx])),rfl⟩
theorem law_post {f:Func} {s:ChangeSpec} {W W':World} {args:Array Value} {ds gs:List (DataW H)} {before:List MemPlace} {tb:TypeId} (hW:DataW.Whole enc P f.params.toList s.vars false W args.toList ds gs before)
  (hvars:s.vars=[]) (hres:f.resultTypes = #[tb]) (htb:P.underlying tb=some .bool) (hfn:s.fn H ds={ results:=[.lit (.bool true)],args:=ds })
  (hl:laidOutB P=true) (hr:∀t∈f.params.toList,P.readableRec t=true∧t<P.types.size) (hb:Below W.heap.size W W') :
  s.post enc P f false true false false W args (.bool true) W':=by
 have hlt:∀p∈before,p.block<W.heap.size:=fun p hp=>hW.lt p hp
 have hW':=hW
 obtain ⟨p,q,hA,hV,rfl,hz,hn⟩:=hW
 rw [hvars] at hV
 obtain ⟨rfl,rfl⟩:=trodVars_none hV
 simp only [List.append_nil] at *
 have hres1:∀(b:Nat) (sp:Nat→Bool) (hd:Bool),DataW.TrodAll enc P W' b sp hd f.resultTypes.toList ((Value.bool true).resultList f.resultTypes.size) (s.fn H (ds++[])).results []:=by
  intro b sp hd
  rw [List.append_nil,hfn,hres]
  exact trodAll_cons_mk (shut_bool htb _) trodAll_mk0
 have hargs:∀sp:Nat→Bool,(∀x∈p,sp x.block=true)→DataW.TrodAll enc P W' 0 sp true f.params.toList args.toList (s.fn H (ds++[])).args p:=by
  intro sp hsp
  rw [List.append_nil,hfn]
  exact trodAll_stays hl hr hA (fun x hx=>hb.same (hlt x hx)) hsp
 have hvs:∀sp:Nat→Bool,DataW.TrodVars enc P W' sp s.vars (s.fn H (ds++[])).vars []:=by
  intro sp
  rw [List.append_nil,hfn,hvars]
  rfl
 refine ⟨ds,[],p,[],p,[],hW',hres1 _ _ _,hargs _ (fun x hx=>by simpa using hlt x hx),hvs _,World.keptBut_mono (fun x hx=>⟨hx,?_⟩) (hb.frame (· ∈ p)),fun h=>by cases h⟩
 exact Or.inr (Or.inl hx)
end
end Go.Proofs.Yticieifacalocaa
namespace Go.Proofs.Yticieifacalocaa
open Go.ChangeShapes Go.WideShapes Go.ChangeAt Go.RowKit Go.Deep Go.Joins
section
variable {H:Type} {enc:TypeId × Value→H} {W:World}
set_option maxRecDepth 100000 in
theorem rd_form {b0:Nat} {v:Value} {d:DataW H} {p:List MemPlace} (hv:Value.okWide Try.prog W .any b0 29 v) (h:DataW.Trod enc Try.prog W 0 (fun _=>true) true 29 v d p) :
  ∃f,IsForm W v f∧((∀n∈d.weights Try.prog 29,n≤reachBytes)→f.atoms.length≤140737488355328∧f.clauses.length≤140737488355328∧∀xs∈f.clauses,xs.length≤140737488355328):=by
 obtain ⟨c0,c1,c2,c3,y0,y1,y2,y3,m,rfl,rfl,rfl,hy0,hy1,hy2,hy3⟩:=open_agg4 Try.underlying29 (by kernel_rfl) (by kernel_rfl) hv h
 obtain ⟨i,rfl,hi⟩:=rd_int Try.underlying3 hy0
 obtain ⟨b,rfl,hb⟩:=rd_int Try.underlying3 hy1
 obtain ⟨ds,hds,wds⟩:=rd_diffs Try.underlying26 Try.underlying50 (by kernel_rfl) (by kernel_rfl) (by kernel_rfl) Try.underlying3 Try.underlying3 Try.underlying3 hy2
 obtain ⟨cs,hcs,wcs⟩:=rd_mat Try.underlying27 Try.underlying33 Try.underlying3 (by kernel_rfl) (by kernel_rfl) (by kernel_rfl) (by kernel_rfl) hy3
 refine ⟨⟨i,b,ds,cs⟩,⟨_,_,rfl,hi,hb,hds,hcs⟩,fun hw => ?_⟩
 have w2:=wds (weights_part (j:=2) Try.underlying29 rfl rfl hw)
 obtain ⟨w3,w4⟩:=wcs (weights_part (j:=3) Try.underlying29 rfl rfl hw)
 exact ⟨Nat.le_trans w2 (by omega),Nat.le_trans w3 (by omega),fun xs hx=>Nat.le_trans (w4 xs hx) (by omega)⟩
end
end Go.Proofs.Yticieifacalocaa
namespace Go.Proofs.Yticieifacalocaa
open Go.RowKit
def okAtom (ints:Int) (d:Diff):Bool :=
 decide (0≤d.x) && decide (d.x<ints) && decide (0≤d.y) && decide (d.y<ints) && decide (d.x≠d.y) && decide (-1048576≤d.c) && decide (d.c≤1048576)
def okLit (bools lit:Int):Bool:=decide (lit≠0) && decide (-bools≤lit) && decide (lit≤bools)
def bodyOk (f:Form):Bool:=f.atoms.all (okAtom f.ints) && f.clauses.all fun c=>c.all (okLit f.bools)
def okNo (b:Bool):Int:=if b=true then 0 else 1
def validF (f:Form):Int :=
 if 32<f.ints∨1024<f.bools∨32768<f.clauses.length then 2
 else if f.ints<0∨f.bools<0∨f.bools<f.atoms.length then 1
 else okNo (bodyOk f)
theorem validF_body {f:Form} (h1:¬32<f.ints) (h2:¬1024<f.bools) (h3:¬32768<f.clauses.length) (h4:¬f.ints<0) (h5:¬f.bools<0) (h6:¬f.bools<f.atoms.length) :
  validF f=okNo (bodyOk f):=by
 unfold validF
 rw [if_neg (by omega),if_neg (by omega)]
theorem okAtom_iff {ints x y z:Int}:okAtom ints ⟨x,y,z⟩=true↔0≤x∧x<ints∧0≤y∧y<ints∧x≠y ∧ -1048576≤z∧z≤1048576:=by
 simp [okAtom,and_assoc]
theorem okLit_iff {bools x:Int}:okLit bools x=true↔x≠0 ∧ -bools≤x∧x≤bools:=by
 simp [okLit,and_assoc]
theorem not_ok {b:Bool} (h:¬b=true):b=false:=by simpa using h
theorem all_take {α:Type} {l:List α} {p:α→Bool} {k:Nat} (h:(l.take k).all p=true) (hk:l.length≤k):l.all p=true:=by
 rwa [List.take_of_length_le hk] at h
theorem bodyOk_all {f:Form} (h1:f.atoms.all (okAtom f.ints)=true) (h2:(f.clauses.all fun c=>c.all (okLit f.bools))=true):bodyOk f=true:=by
 unfold bodyOk;rw [h1,h2];rfl
theorem bodyOk_atom {f:Form} {k:Nat} {d:Diff} (hd:f.atoms[k]? = some d) (h:okAtom f.ints d=false):bodyOk f=false:=by
 unfold bodyOk
 rw [Bool.and_eq_false_iff]
 left
 rw [List.all_eq_false]
 exact ⟨d,List.mem_of_getElem? hd,by simp [h]⟩
theorem bodyOk_lit {f:Form} {k j:Nat} {c:List Int} {x:Int} (hc:f.clauses[k]? = some c) (hx:c[j]? = some x) (h:okLit f.bools x=false):bodyOk f=false:=by
 unfold bodyOk
 rw [Bool.and_eq_false_iff]
 right
 rw [List.all_eq_false]
 exact ⟨c,List.mem_of_getElem? hc,by simp only [Bool.not_eq_true,List.all_eq_false];exact ⟨x,List.mem_of_getElem? hx,by simp [h]⟩⟩
theorem all_take_succ {α:Type} {l:List α} {p:α→Bool} {k:Nat} {x:α} (h:(l.take k).all p=true) (hk:l[k]? = some x) (hx:p x=true):(l.take (k+1)).all p=true:=by
 rw [take_succ_of hk,List.all_append,h];simp [hx]
theorem validF_ok {f:Form} (h:validF f=0):f.ints≤32∧0≤f.ints∧f.bools≤1024∧0≤f.bools∧(f.atoms.length:Int)≤f.bools∧f.clauses.length≤32768 ∧
  (∀d∈f.atoms,okAtom f.ints d=true)∧∀c∈f.clauses,∀x∈c,okLit f.bools x=true:=by
 unfold validF at h
 split at h
 ·cases h
 ·split at h
  ·cases h
  ·have hb:bodyOk f=true:=by
    cases hb:bodyOk f with
    | true=>rfl
    | false=>rw [hb] at h;cases h
   unfold bodyOk at hb
   simp only [Bool.and_eq_true,List.all_eq_true] at hb
   exact ⟨by omega,by omega,by omega,by omega,by omega,by omega,hb.1,hb.2⟩
end Go.Proofs.Yticieifacalocaa
namespace Go.Proofs.Yticieifacalocaa
open Go.RowKit Go.Sort
section
variable {α:Type} [Inhabited α] {enc:α→Value} {w:World} {base g n cap m:Nat} {e:TypeId} {xs:List Value} {os:Array Obj}
theorem heap_put (d:Array α) {cur:Array Value} {fr:Nat × Nat} (hb:w.heap[g]? = some (.cells cur e fr)) :
  (grow (putRow enc (Sort.ahead w m) g 0 d) os).heap[g]? = some (.cells (putCells enc 0 d cur) e fr):=by
 have hg:g<w.heap.size:=(Array.getElem?_eq_some_iff.1 hb).1
 rw [heap_grow_old _ _ (by simpa [Sort.ahead] using hg)]
 simp [putRow,mapBlock,Sort.ahead,Array.getElem?_modify,hb,onCells]
theorem grownBy_put (d:Array α):w.grownBy (grow (putRow enc (Sort.ahead w m) g 0 d) os) (some g):=by
 refine ⟨rfl,rfl,rfl,by simp [grow,putRow,mapBlock,Sort.ahead],fun k hk hne => ?_⟩
 rw [heap_grow_old _ _ (by simpa [putRow,mapBlock,Sort.ahead] using hk)]
 have:g≠k:=fun e=>hne (by rw [e])
 simp [putRow,mapBlock,Sort.ahead,Array.getElem?_modify,this]
theorem take_put (cur:Array Value) (ts:List α) (h:ts.length≤cur.size):(putCells enc 0 ts.toArray cur).toList.take ts.length=ts.map enc:=by
 apply List.ext_getElem?
 intro j
 by_cases hj:j<ts.length
 ·rw [List.getElem?_take_of_lt hj,Array.getElem?_toList]
  simp [putCells,hj,show j<cur.size by omega]
 ·rw [List.getElem?_eq_none (by simp;omega),List.getElem?_eq_none (by simp;omega)]
theorem owns_put (h:w.ownsRow base e 1 (.slice (some ⟨g,0,none⟩) n cap) n xs) (ts:List α) (hl:ts.length=n) :
  (grow (putRow enc (Sort.ahead w m) g 0 ts.toArray) os).ownsRow base e 1 (.slice (some ⟨g,0,none⟩) n cap) n (ts.map enc):=by
 rcases h.2 with ⟨h0,_⟩|⟨g',cap',cur,hv,hbase,hh,h1,h2,h3,_⟩
 ·cases h0
 ·cases hv
  refine ⟨by simp [hl], .inr ⟨g,cap,_,rfl,hbase,heap_put _ hh,h1,h2,by simp [putCells,h3],?_⟩⟩
  rw [Nat.mul_one,←hl]
  exact take_put cur ts (by omega)
theorem owns_cut (h:w.ownsRow base e 1 (.slice (some ⟨g,0,none⟩) n cap) n xs) {k:Nat} (hk:k≤n) :
  w.ownsRow base e 1 (.slice (some ⟨g,0,none⟩) k cap) k (xs.take k):=by
 rcases h.2 with ⟨h0,_⟩|⟨g',cap',cur,hv,hbase,hh,h1,h2,h3,h4⟩
 ·cases h0
 ·cases hv
  refine ⟨by rw [List.length_take,h.1];omega, .inr ⟨g,cap,cur,rfl,hbase,hh,by omega,h2,h3,?_⟩⟩
  rw [←h4,List.take_take,Nat.mul_one,Nat.mul_one,Nat.min_eq_left hk]
theorem holds_own (h:w.ownsRow base e 1 (.slice (some ⟨g,0,none⟩) n cap) n xs) (ts:List α) (hx:xs=ts.map enc):Holds enc w g 0 ts.toArray:=by
 rcases h.2 with ⟨h0,_⟩|⟨g',cap',cur,hv,hbase,hh,h1,h2,h3,h4⟩
 ·cases h0
 ·cases hv
  intro j hj
  have hj':j<ts.length:=by simpa using hj
  have hlen:ts.length=n:=by have:=h.1;rw [hx] at this;simpa using this
  refine ⟨?_,by simp [World.frozen?,hh]⟩
  rw [Nat.zero_add,cell_of_row w g j cur e (0,0) hh]
  have h5:(cur.toList.take (n * 1))[j]? = xs[j]? := by rw [h4]
  rw [List.getElem?_take_of_lt (by omega),Array.getElem?_toList] at h5
  rw [h5,hx,List.getElem?_map,List.getElem?_eq_getElem hj']
  simp [hj']
theorem owns_base {v:Value} {base':Nat} (h:w.ownsRow base e 1 v n xs) (hb:base'≤base):w.ownsRow base' e 1 v n xs:=by
 obtain ⟨h1,h2⟩:=h
 refine ⟨h1,?_⟩
 rcases h2 with h2|⟨g,cap,cur,hv,hg,r⟩
 ·exact .inl h2
 ·exact .inr ⟨g,cap,cur,hv,by omega,r⟩
theorem owns_pos {v:Value} (h:w.ownsRow base e 1 v n xs) (hn:0<n):∃g cap,v = .slice (some ⟨g,0,none⟩) n cap∧base≤g∧g<w.heap.size∧n≤cap∧cap≤maxLen:=by
 rcases h.2 with ⟨_,h0⟩|⟨g,cap,cur,hv,hbase,hh,h1,h2,_⟩
 ·omega
 ·exact ⟨g,cap,hv,hbase,(Array.getElem?_eq_some_iff.1 hh).1,h1,h2⟩
theorem owns_slice {v:Value} (h:w.ownsRow base e 1 v n xs):∃A cap,v = .slice A n cap:=by
 rcases h.2 with ⟨rfl,rfl⟩|⟨g,cap,cur,hv,_⟩
 ·exact ⟨none,0,rfl⟩
 ·exact ⟨_,_,hv⟩
end
section
variable {P:Program} (w:World)
end
theorem Rd.drop {w:World} {A:Option Addr} {xs:List Value} (h:Rd w A xs) (k:Nat):Rd w (A.map fun a=>a.add k) (xs.drop k):=by
 intro h0
 rw [List.length_drop] at h0
 obtain ⟨b,off,rfl,hb,hc⟩:=h (by omega)
 refine ⟨b,off+k,?_,hb,fun j u hu => ?_⟩
 ·simp only [Option.map_some,Addr.add]
  split
  ·rename_i hk;subst hk;rfl
  ·rfl
 ·rw [List.getElem?_drop] at hu
  have:=hc (k+j) u hu
  rwa [show off+k+j=off+(k+j) by omega]
end Go.Proofs.Yticieifacalocaa
