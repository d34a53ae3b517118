/- Open Ok Rows2 Own Tape -/
import Derived.Test.YticieifacalocaaTSB2
import Derived.ProofKit
import Derived.OpenShut
import Derived.Deep.Slices
import Derived.Deep.Fields
import Derived.Lib.SmallJoins
import Derived.SizedLaws
import Derived.WideKeyArgs
import Derived.Sort.Grow
import Derived.Shelf.GgSortFunc.Compose
import Derived.ArgAppend
namespace Go.Proofs.Yticieifacalocaa
open Go.ChangeShapes Go.WideShapes Go.ChangeAt Go.RowKit Go.Deep Go.Joins
theorem list_of {α:Type} {n:Nat} {R:Nat→α→Prop} (h:∀i,i<n→∃a,R i a):∃xs:List α,xs.length=n∧∀i a,xs[i]? = some a→R i a:=by
 induction n with
 | zero=>exact ⟨[],rfl,fun i a h=>by simp at h⟩
 | succ n ih =>
  obtain ⟨xs,hl,hx⟩:=ih fun i hi=>h i (by omega)
  obtain ⟨a,ha⟩:=h n (by omega)
  refine ⟨xs++[a],by simp [hl],fun i b hb => ?_⟩
  rw [uH] at hb
  split at hb
  ·exact hx i b hb
  ·rename_i hi
   have:i=n:=by
    have:=(zG.1 hb).1
    simp at this;omega
   subst this
   simp [hl] at hb
   subst hb
   exact ha
theorem flatMap_at {α β:Type} {xs:List α} {g:α→List β} {k:Nat} (hk:∀a,(g a).length=k) {j:Nat} {u:β} (h:(xs.flatMap g)[j]? = some u) :
  ∃i a r,xs[i]? = some a∧(g a)[r]? = some u∧j=i * k+r∧r<k:=by
 induction xs generalizing j with
 | nil=>simp at h
 | cons a t ih =>
  rw [vV,uH] at h
  split at h
  ·rename_i hlt
   exact ⟨0,a,j,rfl,h,by omega,by rw [hk] at hlt;exact hlt⟩
  ·rename_i hge
   obtain ⟨i,b,r,h1,h2,h3,h4⟩:=ih h
   rw [hk] at hge h3
   exact ⟨i+1,b,r,by simpa using h1,h2,by rw [Nat.succ_mul];omega,h4⟩
section
variable {H:Type} {enc:TypeId × Value→H} {P:Program} {w:World}
theorem open_sl {α:Type} {Q:α→DataW H→Prop} {g:α→List Value} {t e:TypeId} {fuel k:Nat} {v:Value} {x:DataW H × List MemPlace} (ht:P.underlying t=some (.slice e)) (hk:P.cellsOf e=k) (hk0:0<k) (hg:∀a,(g a).length=k)
  (conv:∀n cs y,DataW.trod enc P w 0 (fun _=>true) true n e cs=some y→∃a,cs=g a∧Q a y.1)
  (h:DataW.trod enc P w 0 (fun _=>true) true fuel t [v]=some x) :
  ∃(xs:List α) (A:Option Addr) (c:Nat) (D:Nat→DataW H),v = .slice A xs.length c∧xs.length≤c∧c≤maxLen∧Rd w A (xs.flatMap g)∧(∀i a,xs[i]? = some a→Q a (D i)) ∧
   (∀i,i<xs.length→∀n∈(D i).weights P e,n∈x.1.weights P t)∧(A=none∨∃n∈x.1.weights P t,n=c * P.bytesOf e):=by
 rcases open_slice ht h with ⟨h0,_⟩|⟨a,len,cap,m,n,D,Pl,hcs,_,hl,hm,hmm,hx,hi⟩
 ·injection h0 with h0
  subst h0
  exact ⟨[],none,0,fun _ => .nil,rfl,by simp,by simp [maxLen],Rd.nil _ _,by simp,by simp, .inl rfl⟩
 ·injection hcs with hcs
  subst hcs
  have hmc:m=cap:=by simpa using hmm
  subst hmc
  have key:∀i,i<len→∃b:α,Q b (D i)∧∀r u,(g b)[r]? = some u→w.cell? (a.add (i * k+r))=some u:=by
   intro i hil
   obtain ⟨cs',hc,htr⟩:=hi i (by omega)
   obtain ⟨b,hb,hQ⟩:=conv _ _ _ htr
   refine ⟨b,hQ,fun r u hu => ?_⟩
   obtain ⟨_,hcl,hat⟩:=World.cells?_some hc
   rw [hk] at hat hcl
   have hr:r<k:=by rw [←hg b];exact (zG.1 hu).1
   have:=hat r hr
   rw [Go.Deep.add_add] at this
   rw [this,hb]
   exact hu
  obtain ⟨xs,hxl,hxs⟩:=list_of key
  subst hxl
  refine ⟨xs,some a,m,D,rfl,hl,hm,?_,fun i b hb=>(hxs i b hb).1,fun i hil q hq => ?_, .inr ⟨_,?_,rfl⟩⟩
  ·intro hpos
   have hx0:0<xs.length:=by
    rcases xs with _|⟨y,ys⟩
    ·simp at hpos
    ·simp
   obtain ⟨b0,hb0⟩:∃b,xs[0]? = some b:=⟨_,List.getElem?_eq_getElem hx0⟩
   obtain ⟨u0,hu0⟩:∃u,(g b0)[0]? = some u:=⟨_,List.getElem?_eq_getElem (by rw [hg];exact hk0)⟩
   have hc0:=(hxs 0 b0 hb0).2 0 u0 hu0
   obtain ⟨b,off,spot⟩:=a
   have hspot:spot=none:=by simpa [Addr.add] using World.cell?_spot hc0
   subst hspot
   have hblk:=vO w _ hc0
   refine ⟨b,off,rfl,by simpa [Addr.add] using hblk,fun j u hu => ?_⟩
   obtain ⟨i,c,r,h1,h2,h3,h4⟩:=flatMap_at hg hu
   have:=(hxs i c h1).2 r u h2
   rw [h3,←Go.WideShapes.add_plain]
   exact this
  ·have hmem:D i∈(List.range xs.length).map D:=List.mem_map.2 ⟨i,List.mem_range.2 hil,rfl⟩
   have hall:∀l:List (DataW H),D i∈l→q∈DataW.weightsAll P e l:=by
    intro l hl
    induction l with
    | nil=>cases hl
    | cons d r ih =>
     rw [DataW.weightsAll,zI]
     rcases zW.1 hl with rfl|hl
     ·exact .inl hq
     ·exact .inr (ih hl)
   rw [hx]
   simp only [DataW.weights,ht,zW,zI]
   exact .inr (.inl (hall _ hmem))
  ·rw [hx]
   simp only [DataW.weights,ht,zW,List.length_map,List.length_range]
   left
   rw [show xs.length+(m-xs.length)=m by omega]
theorem rY {α:Type} (xs:List α) (g:α→Value):xs.flatMap (fun a=>[g a])=xs.map g:=by
 induction xs with
 | nil=>rfl
 | cons a r ih=>simp [ih]
theorem v_one {b0 fuel:Nat} {t e:TypeId} {v:Value} {y:DataW H × List MemPlace} (_hv:Value.okWide P w .any b0 t v) (h:DataW.trod enc P w 0 (fun _=>true) true fuel t v.cells.toList=some y) (ht:P.underlying t=some (.slice e)) :
  DataW.trod enc P w 0 (fun _=>true) true fuel t [v]=some y:=by
 obtain ⟨a,l,c,rfl⟩:=okWide_slice ht _hv
 exact h
theorem nU {ts:List TypeId} {vs:List Value} {ds:List (DataW H)} {ps:List MemPlace} (hl:laidOutB P=true) (hr:∀t∈ts,P.readableRec t=true∧t<P.types.size) {W W':World} {sp:Nat→Bool}
  (h:DataW.TrodAll enc P W 0 (fun _=>true) true ts vs ds ps) (hsame:∀p∈ps,W.sameAt W' p) (hs:∀p∈ps,sp p.block=true):DataW.TrodAll enc P W' 0 sp true ts vs ds ps:=by
 induction ts generalizing vs ds ps with
 | nil=>cases vs<;>cases ds<;>simp_all [DataW.TrodAll]
 | cons t ts ih =>
  obtain ⟨v,vs',d,ds',p,q,rfl,rfl,rfl,h1,h2⟩:=trodAll_cons h
  obtain ⟨r1,r2⟩:=hr t (by simp)
  exact ⟨p,q,WideElems.Trod_stays hl r1 r2 h1 (fun x hx=>hsame x (by simp [hx])) (fun x hx=>hs x (by simp [hx])),ih (fun t ht=>hr t (by simp [ht])) h2 (fun x hx=>hsame x (by simp [hx])) (fun x hx=>hs x (by simp [hx])),rfl⟩
theorem law_post {f:Func} {s:ChangeSpec} {W W':World} {args:Array Value} {ds gs:List (DataW H)} {before:List MemPlace} {tb:TypeId} (hW:DataW.Whole enc P f.params.toList s.vars false W args.toList ds gs before)
  (hvars:s.vars=[]) (hres:f.resultTypes = #[tb]) (htb:P.underlying tb=some .bool) (hfn:s.fn H ds={ results:=[.lit (.bool true)],args:=ds })
  (hl:laidOutB P=true) (hr:∀t∈f.params.toList,P.readableRec t=true∧t<P.types.size) (hb:Below W.heap.size W W') :
  s.post enc P f false true false false W args (.bool true) W':=by
 have hlt:∀p∈before,p.block<W.heap.size:=fun p hp=>hW.lt p hp
 have hW':=hW
 obtain ⟨p,q,hA,hV,rfl,hz,hn⟩:=hW
 rw [hvars] at hV
 obtain ⟨rfl,rfl⟩:=trodVars_none hV
 simp only [xD] at *
 have hres1:∀(b:Nat) (sp:Nat→Bool) (hd:Bool),DataW.TrodAll enc P W' b sp hd f.resultTypes.toList ((Value.bool true).resultList f.resultTypes.size) (s.fn H (ds++[])).results []:=by
  intro b sp hd
  rw [xD,hfn,hres]
  exact trodAll_cons_mk (shut_bool htb _) trodAll_mk0
 have hargs:∀sp:Nat→Bool,(∀x∈p,sp x.block=true)→DataW.TrodAll enc P W' 0 sp true f.params.toList args.toList (s.fn H (ds++[])).args p:=by
  intro sp hsp
  rw [xD,hfn]
  exact nU hl hr hA (fun x hx=>hb.same (hlt x hx)) hsp
 have hvs:∀sp:Nat→Bool,DataW.TrodVars enc P W' sp s.vars (s.fn H (ds++[])).vars []:=by
  intro sp
  rw [xD,hfn,hvars]
  rfl
 refine ⟨ds,[],p,[],p,[],hW',hres1 _ _ _,hargs _ (fun x hx=>by simpa using hlt x hx),hvs _,World.keptBut_mono (fun x hx=>⟨hx,?_⟩) (hb.frame (· ∈ p)),fun h=>by cases h⟩
 exact Or.inr (Or.inl hx)
end
open Go.RowKit
def bM (ints:Int) (d:Diff):Bool :=
 decide (0≤d.x) && decide (d.x<ints) && decide (0≤d.y) && decide (d.y<ints) && decide (d.x≠d.y) && decide (-1048576≤d.c) && decide (d.c≤1048576)
def bZ (bools lit:Int):Bool:=decide (lit≠0) && decide (-bools≤lit) && decide (lit≤bools)
def bodyOk (f:Form):Bool:=f.atoms.all (bM f.ints) && f.clauses.all fun c=>c.all (bZ f.bools)
def okNo (b:Bool):Int:=if b=true then 0 else 1
def validF (f:Form):Int :=
 if 32<f.ints∨1024<f.bools∨32768<f.clauses.length then 2
 else if f.ints<0∨f.bools<0∨f.bools<f.atoms.length then 1
 else okNo (bodyOk f)
theorem lI {f:Form} (h1:¬32<f.ints) (h2:¬1024<f.bools) (h3:¬32768<f.clauses.length) (h4:¬f.ints<0) (h5:¬f.bools<0) (h6:¬f.bools<f.atoms.length) :
  validF f=okNo (bodyOk f):=by
 unfold validF
 rw [if_neg (by omega),if_neg (by omega)]
theorem dR {ints x y z:Int}:bM ints ⟨x,y,z⟩=true↔0≤x∧x<ints∧0≤y∧y<ints∧x≠y ∧ -1048576≤z∧z≤1048576:=by
 simp [bM,and_assoc]
theorem dN {bools x:Int}:bZ bools x=true↔x≠0 ∧ -bools≤x∧x≤bools:=by
 simp [bZ,and_assoc]
theorem rH {b:Bool} (h:¬b=true):b=false:=by simpa using h
theorem fX {α:Type} {l:List α} {p:α→Bool} {k:Nat} (h:(l.take k).all p=true) (hk:l.length≤k):l.all p=true:=by
 rwa [zS hk] at h
theorem mA {f:Form} (h1:f.atoms.all (bM f.ints)=true) (h2:(f.clauses.all fun c=>c.all (bZ f.bools))=true):bodyOk f=true:=by
 unfold bodyOk;rw [h1,h2];rfl
theorem lL {f:Form} {k:Nat} {d:Diff} (hd:f.atoms[k]? = some d) (h:bM f.ints d=false):bodyOk f=false:=by
 unfold bodyOk
 rw [jS]
 left
 rw [kR]
 exact ⟨d,List.mem_of_getElem? hd,by simp [h]⟩
theorem mH {f:Form} {k j:Nat} {c:List Int} {x:Int} (hc:f.clauses[k]? = some c) (hx:c[j]? = some x) (h:bZ f.bools x=false):bodyOk f=false:=by
 unfold bodyOk
 rw [jS]
 right
 rw [kR]
 exact ⟨c,List.mem_of_getElem? hc,by simp only [Bool.not_eq_true,kR];exact ⟨x,List.mem_of_getElem? hx,by simp [h]⟩⟩
theorem bV {α:Type} {l:List α} {p:α→Bool} {k:Nat} {x:α} (h:(l.take k).all p=true) (hk:l[k]? = some x) (hx:p x=true):(l.take (k+1)).all p=true:=by
 rw [wW hk,List.all_append,h];simp [hx]
theorem iP {f:Form} (h:validF f=0):f.ints≤32∧0≤f.ints∧f.bools≤1024∧0≤f.bools∧(f.atoms.length:Int)≤f.bools∧f.clauses.length≤32768 ∧
  (∀d∈f.atoms,bM f.ints d=true)∧∀c∈f.clauses,∀x∈c,bZ f.bools x=true:=by
 unfold validF at h
 split at h
 ·cases h
 ·split at h
  ·cases h
  ·have hb:bodyOk f=true:=by
    cases hb:bodyOk f with
    | true=>rfl
    | false=>rw [hb] at h;cases h
   unfold bodyOk at hb
   simp only [xM,qS] at hb
   exact ⟨by omega,by omega,by omega,by omega,by omega,by omega,hb.1,hb.2⟩
open Go.RowKit Go.Sort
section
variable {α:Type} [Inhabited α] {enc:α→Value} {w:World} {base g n cap m:Nat} {e:TypeId} {xs:List Value} {os:Array Obj}
theorem heap_put (d:Array α) {cur:Array Value} {fr:Nat × Nat} (hb:w.heap[g]? = some (.cells cur e fr)) :
  (grow (putRow enc (Sort.ahead w m) g 0 d) os).heap[g]? = some (.cells (putCells enc 0 d cur) e fr):=by
 have hg:g<w.heap.size:=(yY.1 hb).1
 rw [heap_grow_old _ _ (by simpa [Sort.ahead] using hg)]
 simp [putRow,mapBlock,Sort.ahead,Array.getElem?_modify,hb,onCells]
theorem lH (d:Array α):w.grownBy (grow (putRow enc (Sort.ahead w m) g 0 d) os) (some g):=by
 refine ⟨rfl,rfl,rfl,by simp [grow,putRow,mapBlock,Sort.ahead],fun k hk hne => ?_⟩
 rw [heap_grow_old _ _ (by simpa [putRow,mapBlock,Sort.ahead] using hk)]
 have:g≠k:=fun e=>hne (by rw [e])
 simp [putRow,mapBlock,Sort.ahead,Array.getElem?_modify,this]
theorem take_put (cur:Array Value) (ts:List α) (h:ts.length≤cur.size):(putCells enc 0 ts.toArray cur).toList.take ts.length=ts.map enc:=by
 apply List.ext_getElem?
 intro j
 by_cases hj:j<ts.length
 ·rw [uY hj,jR]
  simp [putCells,hj,show j<cur.size by omega]
 ·rw [zZ (by simp;omega),zZ (by simp;omega)]
theorem tB (h:w.ownsRow base e 1 (.slice (some ⟨g,0,none⟩) n cap) n xs) (ts:List α) (hl:ts.length=n) :
  (grow (putRow enc (Sort.ahead w m) g 0 ts.toArray) os).ownsRow base e 1 (.slice (some ⟨g,0,none⟩) n cap) n (ts.map enc):=by
 rcases h.2 with ⟨h0,_⟩|⟨g',cap',cur,hv,hbase,hh,h1,h2,h3,_⟩
 ·cases h0
 ·cases hv
  refine ⟨by simp [hl], .inr ⟨g,cap,_,rfl,hbase,heap_put _ hh,h1,h2,by simp [putCells,h3],?_⟩⟩
  rw [yD,←hl]
  exact take_put cur ts (by omega)
theorem owns_cut (h:w.ownsRow base e 1 (.slice (some ⟨g,0,none⟩) n cap) n xs) {k:Nat} (hk:k≤n) :
  w.ownsRow base e 1 (.slice (some ⟨g,0,none⟩) k cap) k (xs.take k):=by
 rcases h.2 with ⟨h0,_⟩|⟨g',cap',cur,hv,hbase,hh,h1,h2,h3,h4⟩
 ·cases h0
 ·cases hv
  refine ⟨by rw [qG,h.1];omega, .inr ⟨g,cap,cur,rfl,hbase,hh,by omega,h2,h3,?_⟩⟩
  rw [←h4,xH,yD,yD,yF hk]
theorem oY (h:w.ownsRow base e 1 (.slice (some ⟨g,0,none⟩) n cap) n xs) (ts:List α) (hx:xs=ts.map enc):Holds enc w g 0 ts.toArray:=by
 rcases h.2 with ⟨h0,_⟩|⟨g',cap',cur,hv,hbase,hh,h1,h2,h3,h4⟩
 ·cases h0
 ·cases hv
  intro j hj
  have hj':j<ts.length:=by simpa using hj
  have hlen:ts.length=n:=by have:=h.1;rw [hx] at this;simpa using this
  refine ⟨?_,by simp [World.frozen?,hh]⟩
  rw [yA,cell_of_row w g j cur e (0,0) hh]
  have h5:(cur.toList.take (n * 1))[j]? = xs[j]? := by rw [h4]
  rw [uY (by omega),jR] at h5
  rw [h5,hx,List.getElem?_map,List.getElem?_eq_getElem hj']
  simp [hj']
theorem eL {v:Value} {base':Nat} (h:w.ownsRow base e 1 v n xs) (hb:base'≤base):w.ownsRow base' e 1 v n xs:=by
 obtain ⟨h1,h2⟩:=h
 refine ⟨h1,?_⟩
 rcases h2 with h2|⟨g,cap,cur,hv,hg,r⟩
 ·exact .inl h2
 ·exact .inr ⟨g,cap,cur,hv,by omega,r⟩
theorem nP {v:Value} (h:w.ownsRow base e 1 v n xs) (hn:0<n):∃g cap,v = .slice (some ⟨g,0,none⟩) n cap∧base≤g∧g<w.heap.size∧n≤cap∧cap≤maxLen:=by
 rcases h.2 with ⟨_,h0⟩|⟨g,cap,cur,hv,hbase,hh,h1,h2,_⟩
 ·omega
 ·exact ⟨g,cap,hv,hbase,(yY.1 hh).1,h1,h2⟩
theorem dQ {v:Value} (h:w.ownsRow base e 1 v n xs):∃A cap,v = .slice A n cap:=by
 rcases h.2 with ⟨rfl,rfl⟩|⟨g,cap,cur,hv,_⟩
 ·exact ⟨none,0,rfl⟩
 ·exact ⟨_,_,hv⟩
end
section
variable {P:Program} (w:World)
theorem eV (base:Nat) (t ty e:TypeId) (i:TypeInfo) (size:Nat) (ht:P.underlying t=some (.slice e)) (hi:P.info? e=some i)
  (v:Value) (n:Nat) (xs:List Value) (hown:w.ownsRow base e size v n xs) (c:Nat):(Builtin.append_ #[t,t] ty #[v, .slice none 0 c]).run P w = .ok v w:=by
 rcases hown.2 with ⟨rfl,rfl⟩|⟨g,cap,cur,rfl,_,_,hnc,_⟩
 ·simp [Builtin.append_,run_underlying ht,sizeOf,typeInfo,hi,Builtin.lenOf,Builtin.firstCells]
 ·simp [Builtin.append_,run_underlying ht,sizeOf,typeInfo,hi,Builtin.lenOf,Builtin.firstCells,hnc,storeCells]
theorem Rd.adds {A:Option Addr} {news:List Value} {ad:Addr} (hr:Rd w A news) (hA:A=some ad):∀j u,news[j]? = some u→w.cell? (ad.add j)=some u:=by
 intro j u hu
 have hl:j<news.length:=(zG.1 hu).1
 obtain ⟨b,off,hA',_,hc⟩:=hr (by omega)
 rw [hA] at hA'
 injection hA' with hA'
 subst hA'
 have:=hc j u hu
 unfold Addr.add
 split
 ·rename_i h0;subst h0;simpa using this
 ·exact this
theorem nX (base:Nat) (t ty e:TypeId) (i:TypeInfo) (z:Value) (size bytes:Nat) (ht:P.underlying t=some (.slice e)) (hi:P.info? e=some i) (hz:i.zero=some z)
  (hsize:i.size=size) (hby:i.bytes=bytes) (hzs:z.cells.size=size) (hsz:0<size)
  (v:Value) (n:Nat) (xs:List Value) (hown:w.ownsRow base e size v n xs)
  (A:Option Addr) (m c:Nat) (news:List Value) (hl:news.length=m * size) (hr:Rd w A news) (h1:∀u∈news,u.oneCell'=true)
  (h63:n+m≤maxLen) (hbytes:(n+m) * bytes≤140737488355328) (hbase:base≤w.heap.size) :
  ∃v' w',(Builtin.append_ #[t,t] ty #[v, .slice A m c]).run P w = .ok v' w'∧w'.ownsRow base e size v' (n+m) (xs++news)∧w.grownBy w' v.ownBlock ∧
   (v'.ownBlock=v.ownBlock∨v'.ownBlock=some w.heap.size):=by
 rcases A with _|ad
 ·have hm:m=0:=by
   rcases Nat.eq_zero_or_pos m with h0|h0
   ·exact h0
   ·obtain ⟨_,_,h,_⟩:=hr (by rw [hl];exact Nat.mul_pos h0 hsz)
    cases h
  subst hm
  have hn:news=[]:=yG (by simpa using hl)
  subst hn
  exact ⟨v,w,eV w base t ty e i size ht hi v n xs hown c,by simpa using hown,World.grownBy.refl w _, .inl rfl⟩
 ·obtain ⟨v',w',hrun,h2,h3,_,h5⟩:=run_append_own_at (P:=P) w base t ty e i z size bytes ht hi hz hsize hby hzs hsz v n xs hown ad m c news hl (hr.adds w rfl) h1 h63 hbytes hbase
  exact ⟨v',w',hrun,h2,h3,h5⟩
theorem aH {ops:Array Oper} {rest:List Oper} {o:Oper} {a:Act} {Q:Exit→Act→World→Prop} (hgd:o.guard=none) (s x:Operand) (t:TypeId)
  (ho:o.op = .call { callee := .builtin .append,args := #[s,x],argTypes := #[t,t] })
  (base:Nat) (e:TypeId) (i:TypeInfo) (z:Value) (size bytes:Nat) (ht:P.underlying t=some (.slice e)) (hi:P.info? e=some i) (hz:i.zero=some z)
  (hsize:i.size=size) (hby:i.bytes=bytes) (hzs:z.cells.size=size) (hsz:0<size)
  (v:Value) (n:Nat) (xs:List Value) (hs:a.eval s=v) (hown:w.ownsRow base e size v n xs)
  (A:Option Addr) (m c:Nat) (news:List Value) (hx:a.eval x = .slice A m c) (hl:news.length=m * size) (hr:Rd w A news) (h1:∀u∈news,u.oneCell'=true)
  (h63:n+m≤maxLen) (hbytes:(n+m) * bytes≤140737488355328) (hbase:base≤w.heap.size)
  (h:∀v' w',w'.ownsRow base e size v' (n+m) (xs++news)→w.grownBy w' v.ownBlock→(v'.ownBlock=v.ownBlock∨v'.ownBlock=some w.heap.size)→wpList P ops Q rest (a.put o.dst v') w'):wpList P ops Q (o::rest) a w:=by
 refine jL hgd fun _ hK => ?_
 obtain ⟨v',w',hrun,h2,h3,h4⟩:=nX (P:=P) w base t o.type e i z size bytes ht hi hz hsize hby hzs hsz v n xs hown A m c news hl hr h1 h63 hbytes hbase
 unfold Oper.wp execOp
 simp only [ho,resolve,invoke,builtin,uO,uP,kT,uA,qF,kM,hs,hx,hrun]
 exact hK _ _ (h v' w' h2 h3 h4)
end
theorem gL:(Try.prog.info? 3).map (fun i=>(i.zero,i.size,i.bytes))=some (some (.int .i64 0),1,8):=by kernel_rfl
theorem eP:(Try.prog.info? 33).map (fun i=>(i.zero,i.size,i.bytes))=some (some (.slice none 0 0),1,24):=by kernel_rfl
theorem aF:(Try.prog.info? 50).map (fun i=>(i.zero,i.size,i.bytes))=some (some (.agg #[.int .i64 0, .int .i64 0, .int .i64 0]),3,24):=by kernel_rfl
def Own (w':World) (base:Nat) (v:Value) (xs:List Int):Prop :=
 w'.ownsRow base 3 1 v xs.length (xs.map (Value.int .i64))∧∀x∈xs,I64 x
theorem eQ {w:World} {base g n cap k:Nat} {e:TypeId} {xs:List Value} (h:w.ownsRow base e k (.slice (some ⟨g,0,none⟩) n cap) n xs):base≤g∧g<w.heap.size∧n≤cap∧cap≤maxLen∧∀j u,xs[j]? = some u→w.cell? ⟨g,0+j,none⟩=some u:=by
 rcases h.2 with ⟨h0,_⟩|⟨g',cap',cur,hv,hg,hh,hn,hm,hs,ht⟩
 ·cases h0
 ·cases hv
  refine ⟨hg,(yY.1 hh).1,hn,hm,fun j u hu => ?_⟩
  rw [yA,cell_of_row w g j cur e (0,0) hh]
  rw [←ht,qK] at hu
  split at hu
  ·simpa using hu
  ·cases hu
theorem aR {w:World} {base n k:Nat} {e:TypeId} {v:Value} {xs:List Value} (h:w.ownsRow base e k v n xs):(v = .slice none 0 0∧n=0∧xs=[])∨∃g cap,v = .slice (some ⟨g,0,none⟩) n cap:=by
 rcases h.2 with ⟨rfl,rfl⟩|⟨g,cap,_,rfl,_⟩
 ·exact .inl ⟨rfl,rfl,yG (by simpa using h.1)⟩
 ·exact .inr ⟨g,cap,rfl⟩
theorem wS {w:World} {base n k:Nat} {e:TypeId} {v:Value} {xs:List Value} (h:w.ownsRow base e k v n xs):∃A c,v = .slice A n c∧n≤c∧c≤maxLen∧Rd w A xs:=by
 rcases aR h with ⟨rfl,rfl,rfl⟩|⟨g,cap,rfl⟩
 ·exact ⟨none,0,rfl,Nat.le_refl _,by simp [maxLen],Rd.nil _ _⟩
 ·obtain ⟨h1,h2,h3,h4,h5⟩:=eQ h
  exact ⟨_,cap,rfl,h3,h4,fun _=>⟨g,0,rfl,h2,h5⟩⟩
theorem Own.ints {w:World} {base:Nat} {v:Value} {xs:List Int} (h:Own w base v xs):Ints w v xs:=by
 obtain ⟨A,c,h1,h2,h3,h4⟩:=wS h.1
 exact ⟨A,c,h1,h2,h3,h.2,h4⟩
theorem bO {w:World} {base:Nat} {v:Value} {ds:List Diff} (h:w.ownsRow base 50 3 v ds.length (ds.flatMap Diff.cells)) (hk:∀d∈ds,d.ok):Diffs w v ds:=by
 obtain ⟨A,c,h1,h2,h3,h4⟩:=wS h
 exact ⟨A,c,h1,h2,h3,hk,h4⟩
def IntsO (w:World) (P:Nat→Prop) (v:Value) (xs:List Int):Prop :=
 ∃A c,v = .slice A xs.length c∧xs.length≤c∧c≤maxLen∧(∀x∈xs,I64 x) ∧
  (0<xs.length→∃b off,A=some ⟨b,off,none⟩∧b<w.heap.size∧P b∧∀j u,(xs.map (Value.int .i64))[j]? = some u→w.cell? ⟨b,off+j,none⟩=some u)
section
variable {w w':World} {P Q:Nat→Prop} {v:Value} {xs:List Int} {base:Nat}
theorem IntsO.ints (h:IntsO w P v xs):Ints w v xs:=by
 obtain ⟨A,c,h1,h2,h3,h4,h5⟩:=h
 exact ⟨A,c,h1,h2,h3,h4,fun h0=>by obtain ⟨b,off,a1,a2,_,a4⟩:=h5 (by simpa using h0);exact ⟨b,off,a1,a2,a4⟩⟩
theorem IntsO.mono (h:IntsO w P v xs) (hP:∀b,b<w.heap.size→P b→Q b):IntsO w Q v xs:=by
 obtain ⟨A,c,h1,h2,h3,h4,h5⟩:=h
 exact ⟨A,c,h1,h2,h3,h4,fun h0=>by obtain ⟨b,off,a1,a2,a3,a4⟩:=h5 h0;exact ⟨b,off,a1,a2,hP b a2 a3,a4⟩⟩
theorem IntsO.grown {row:Option Nat} (h:IntsO w P v xs) (hg:w.grownBy w' row) (hne:∀b,P b→some b≠row):IntsO w' P v xs:=by
 obtain ⟨A,c,h1,h2,h3,h4,h5⟩:=h
 exact ⟨A,c,h1,h2,h3,h4,fun h0=>by obtain ⟨b,off,a1,a2,a3,a4⟩:=h5 h0;exact ⟨b,off,a1,qI a2 hg.size,a3,fun j u hu=>hg.cell (a4 j u hu) (hne b a3)⟩⟩
theorem IntsO.keep (h:IntsO w P v xs) (hb:Below w.heap.size w w'):IntsO w' P v xs:=by
 obtain ⟨A,c,h1,h2,h3,h4,h5⟩:=h
 exact ⟨A,c,h1,h2,h3,h4,fun h0=>by obtain ⟨b,off,a1,a2,a3,a4⟩:=h5 h0;exact ⟨b,off,a1,qI a2 hb.size,a3,fun j u hu=>(hb.cell (p:=⟨b,off+j,none⟩) a2).trans (a4 j u hu)⟩⟩
theorem Own.intsO (h:Own w base v xs) (hP:∀b,base≤b→b<w.heap.size→v.ownBlock=some b→P b):IntsO w P v xs:=by
 rcases aR h.1 with ⟨rfl,h0,_⟩|⟨g,cap,rfl⟩
 ·obtain rfl:xs=[]:=yG h0
  exact ⟨none,0,rfl,by simp,by simp [maxLen],by simp,by simp⟩
 ·obtain ⟨h1,h2,h3,h4,h5⟩:=eQ h.1
  exact ⟨_,cap,rfl,h3,h4,h.2,fun _=>⟨g,0,rfl,h2,hP g h1 h2 rfl,h5⟩⟩
end
def OwnMat (w:World) (base:Nat) (P:Nat→Prop) (v:Value) (us:List Value) (xss:List (List Int)):Prop :=
 w.ownsRow base 33 1 v us.length us∧us.length=xss.length∧∀(k:Nat) (u:Value) (xs:List Int),us[k]? = some u→xss[k]? = some xs→IntsO w (fun b=>P b∧some b≠v.ownBlock) u xs
section
variable {w w':World} {P Q:Nat→Prop} {v u:Value} {us:List Value} {xss:List (List Int)} {xs:List Int} {base:Nat}
theorem OwnMat.nil (w:World) (base:Nat) (P:Nat→Prop):OwnMat w base P (.slice none 0 0) [] []:=⟨zX _ _ _ _,rfl,fun k u xs h=>by simp at h⟩
theorem OwnMat.mat (h:OwnMat w base P v us xss):Mat w v xss:=by
 obtain ⟨h1,h2,h3⟩:=h
 obtain ⟨A,c,q1,q2,q3,q4⟩:=wS h1
 exact ⟨A,c,us,by rw [q1,h2],by omega,q3,h2,q4,fun k u xs a b=>(h3 k u xs a b).ints⟩
theorem OwnMat.grown {row:Option Nat} (h:OwnMat w base P v us xss) (hg:w.grownBy w' row) (hv:v.ownBlock=none∨v.ownBlock≠row) (hne:∀b,P b→some b≠row):OwnMat w' base P v us xss :=
 ⟨h.1.kept hg hv,h.2.1,fun k u xs a b=>(h.2.2 k u xs a b).grown hg fun b hb=>hne b hb.1⟩
theorem OwnMat.mono (h:OwnMat w base P v us xss) (hP:∀b,b<w.heap.size→P b→Q b):OwnMat w base Q v us xss :=
 ⟨h.1,h.2.1,fun k u xs a b=>(h.2.2 k u xs a b).mono fun b hb hp=>⟨hP b hb hp.1,hp.2⟩⟩
theorem bB {w w':World} {base n k:Nat} {e:TypeId} {v:Value} {xs:List Value} (h:w.ownsRow base e k v n xs) (hb:Below w.heap.size w w'):w'.ownsRow base e k v n xs:=by
 refine ⟨h.1,?_⟩
 rcases h.2 with hn|⟨g,cap,cur,rfl,hg,hgg,rest⟩
 ·exact .inl hn
 ·exact .inr ⟨g,cap,cur,rfl,hg,(hb.block g (yY.1 hgg).1).trans hgg,rest⟩
theorem OwnMat.keep (h:OwnMat w base P v us xss) (hb:Below w.heap.size w w'):OwnMat w' base P v us xss :=
 ⟨bB h.1 hb,h.2.1,fun k u xs a b=>(h.2.2 k u xs a b).keep hb⟩
theorem gY (w:World) (o:Obj):w.grownBy (w.alloc o) none:=World.grownBy_alloc w o none
theorem OwnMat.push {v':Value} {o:Obj} (h:OwnMat w base P v us xss) (hu:IntsO w (fun b=>P b∧some b≠v.ownBlock) u xs)
  (ho:w'.ownsRow base 33 1 v' (us.length+1) (us++[u])) (hg:(w.alloc o).grownBy w' v.ownBlock) (hat:v'.ownBlock=v.ownBlock∨v'.ownBlock=some (w.alloc o).heap.size):OwnMat w' base P v' (us++[u]) (xss++[xs]):=by
 have key:∀{u xs},IntsO w (fun b=>P b∧some b≠v.ownBlock) u xs→IntsO w' (fun b=>P b∧some b≠v'.ownBlock) u xs:=by
  intro u xs h
  refine IntsO.mono (P:=fun b=>(P b∧some b≠v.ownBlock)∧b<w.heap.size) ?_ fun b _ hb=>⟨hb.1.1,?_⟩
  ·have h1:IntsO w (fun b=>(P b∧some b≠v.ownBlock)∧b<w.heap.size) u xs:=h.mono fun b h1 h2=>⟨h2,h1⟩
   exact (h1.grown (gY w o) (fun b _=>by simp)).grown hg fun b hb=>hb.1.2
  ·rcases hat with e|e<;>rw [e]
   ·exact hb.1.2
   ·simp;have:=hb.2;omega
 refine ⟨by simpa using ho,by simp [h.2.1],fun k u' xs' a b => ?_⟩
 by_cases hk:k<us.length
 ·rw [zP hk] at a
  rw [zP (by rw [←h.2.1];exact hk)] at b
  exact key (h.2.2 k u' xs' a b)
 ·rw [zL (by omega)] at a
  rw [zL (by rw [←h.2.1];omega),←h.2.1] at b
  have:k-us.length=0:=by
   have:=(zG.1 a).1
   simp at this;omega
  rw [this] at a b
  simp at a b
  subst a b
  exact key hu
end
theorem gQ (w:World) (t:TypeId) (cs:List Value) {B:Nat} (hB:w.heap.size=B):∀j x,cs[j]? = some x→(w.alloc (.cells cs.toArray t)).cell? ((⟨B,0,none⟩:Addr).add j)=some x:=by
 intro j x hx
 subst hB
 have h:=(Blk.new w t cs.toArray).cell j
 rw [zA,hx] at h
 unfold Addr.add
 split
 ·rename_i h0;subst h0;exact h
 ·rw [yA];exact h
theorem gP (w:World) (u:Value) (t:TypeId):∀j x,[u][j]? = some x→(w.alloc (.cells #[u] t)).cell? ((⟨w.heap.size,0,none⟩:Addr).add j)=some x:=gQ w t [u] rfl
theorem Blk.grown {w w':World} {g:Nat} {t:TypeId} {cs:Array Value} {row:Option Nat} (h:Blk w g t cs) (hg:w.grownBy w' row) (hne:some g≠row):Blk w' g t cs:=(hg.block g h.lt hne).trans h
theorem wR (w:World) (g i:Nat) (u:Value):w.grownBy (w.setCell ⟨g,i,none⟩ u) (some g) :=
 ⟨rfl,rfl,rfl,by simp,fun k _ hne=>kJ w ⟨g,i,none⟩ u k (by simpa using hne)⟩
theorem pZ (w:World) (row:Option Nat):w.grownBy w.drew row:=⟨rfl,rfl,rfl,Nat.le_refl _,fun _ _ _=>rfl⟩
theorem gR {a b c:World} {row:Option Nat} (h1:a.grownBy b row) (h2:b.grownBy c row):a.grownBy c row :=
 ⟨h2.os.trans h1.os,h2.tape.trans h1.tape,h2.output.trans h1.output,qC h1.size h2.size,fun k hk hne=>(h2.block k (qI hk h1.size) hne).trans (h1.block k hk hne)⟩
theorem dW {w:World} {base n k g:Nat} {e:TypeId} {v:Value} {xs:List Value} (h:w.ownsRow base e k v n xs) (hg:g<base):v.ownBlock=none∨v.ownBlock≠some g:=by
 cases e:v.ownBlock with
 | none=>exact .inl rfl
 | some g'=>right;have:=h.lt g' e;simp;omega
theorem fZ (v:Value):v.ownBlock=none∨v.ownBlock≠none:=wF _
theorem own_ne2 {v u:Value} {B:Nat} (hv:∀g,v.ownBlock=some g→g<B) (hu:∀g,u.ownBlock=some g→B≤g):v.ownBlock=none∨v.ownBlock≠u.ownBlock:=by
 cases e:v.ownBlock with
 | none=>exact .inl rfl
 | some g=>right;intro e';have:=hv g e;have:=hu g e'.symm;omega
def Apart (u v:Value):Prop:=∀g,u.ownBlock=some g→v.ownBlock≠some g
theorem Apart.nil_left (v:Value):Apart (.slice none 0 0) v:=fun g h=>by cases h
theorem Apart.symm {u v:Value} (h:Apart u v):Apart v u:=fun g e1 e2=>h g e2 e1
theorem Apart.ne {u v:Value} (h:Apart u v):u.ownBlock=none∨u.ownBlock≠v.ownBlock:=by
 cases e:u.ownBlock with
 | none=>exact .inl rfl
 | some g=>right;exact fun e'=>h g e e'.symm
theorem Apart.append {u v v':Value} {n:Nat} (h:Apart u v) (hu:∀g,u.ownBlock=some g→g<n) (hat:v'.ownBlock=v.ownBlock∨v'.ownBlock=some n):Apart u v':=by
 intro g e1 e2
 rcases hat with h1|h1
 ·exact h g e1 (h1.symm.trans e2)
 ·rw [h1] at e2;injection e2 with e2;have:=hu g e1;omega
def Byts (w:World) (v:Value) (xs:List Int):Prop :=
 ∃A c,v = .slice A xs.length c∧xs.length≤c∧c≤maxLen∧(∀x∈xs,0≤x∧x≤255)∧Rd w A (xs.map (Value.int .u8))
theorem Byts.keep {w w':World} {v:Value} {xs:List Int} (h:Byts w v xs) (hb:Below w.heap.size w w'):Byts w' v xs:=by
 obtain ⟨A,c,hv,hl,hm,hx,hr⟩:=h
 exact ⟨A,c,hv,hl,hm,hx,hr.keep hb⟩
def NextRet (w:World) (g:Nat) (lv:Value) (len:Nat) (n:Int) (e:Ending) (w':World):Prop :=
 ∃(x:Int) (at':Nat),e = .returned (.int .i64 x)∧0≤x∧x<n∧at'≤len∧Blk w' g 101 #[lv, .int .i64 at']∧w.grownBy w' (some g)∧w'.heap.size=w.heap.size
set_option maxRecDepth 100000 in
set_option maxHeartbeats 1000000 in
theorem iF (g:Nat) (lv:Value) (at_:Nat) (L:List Int) (n:Int) (w:World) (hB:Blk w g 101 #[lv, .int .i64 at_]) (hL:Byts w lv L) (h1:1≤n) (h2:n≤1000000) (hat:at_≤L.length) (hlen:L.length≤1000000) :
  Calls Try.prog 44 #[.pointer (some ⟨g,0,none⟩), .int .i64 n] w (NextRet w g lv L.length n):=by
 have q0:=hB.cell 0
 have q1:=hB.cell 1
 simp only [zA,zB,zC] at q0 q1
 have f1:=hB.frozen 1
 have hgl:=hB.lt
 have HB:=Lib.hid hB
 obtain ⟨A,c,rfl,k1,k2,k3,hr⟩:=hL
 have HR:=Lib.hid hr
 have HX:=Lib.hid k3
 clear hB k2 k3 hr
 have dn:decide (n<1)=false:=by simp;omega
 by_cases hlt:at_<L.length
 ·obtain ⟨x,hx⟩:∃x,L[at_]? = some x:=⟨_,List.getElem?_eq_getElem hlt⟩
  obtain ⟨b,o,rfl,hb,hc⟩:=HR.out.at_ (u := .int .u8 x) (by rw [List.getElem?_map,hx];rfl)
  obtain ⟨x1,x2⟩:=HX.out x (List.mem_of_getElem? hx)
  have hbg:b≠g:=by
   rintro rfl
   rw [HB.out.cell] at hc
   rcases h:o+at_ with _|_|m<;>rw [h] at hc<;>simp at hc
  clear hx
  have d1:decide ((L.length:Int)≤(at_:Int))=false:=by simp;omega
  go_enter Try.func44,Try.ntmps44
  go_wp2_with fail
  go_quiet (fail)
  go_wp2_with fail
  have B1:Blk ((w.drewN nq).setCell ⟨g,1,none⟩ (.int .i64 ((at_:Int)+1))) g 101 #[.slice (some ⟨b,o,none⟩) L.length c, .int .i64 ((at_:Int)+1)]:=(HB.out.drewN nq).set_ 1 _
  have hc1:((w.drewN nq).setCell ⟨g,1,none⟩ (.int .i64 ((at_:Int)+1))).cell? ⟨b,o+at_,none⟩=some (.int .u8 x) :=
   (yR (a:=⟨b,o+at_,none⟩) (kJ (w.drewN nq) ⟨g,1,none⟩ _ b hbg)).trans hc
  have hgr:w.grownBy ((w.drewN nq).setCell ⟨g,1,none⟩ (.int .i64 ((at_:Int)+1))) (some g) :=
   ⟨rfl,rfl,rfl,by simp,fun k _ hne=>kJ (w.drewN nq) ⟨g,1,none⟩ _ k (by simpa using hne)⟩
  have hsz:((w.drewN nq).setCell ⟨g,1,none⟩ (.int .i64 ((at_:Int)+1))).heap.size=w.heap.size:=by simp
  generalize (w.drewN nq).setCell ⟨g,1,none⟩ (.int .i64 ((at_:Int)+1))=W at *
  have q0:=B1.cell 0
  have q1:=B1.cell 1
  simp only [zA,zB,zC] at q0 q1
  have HB1:=Lib.hid B1
  have HG:=Lib.hid hgr
  have HSZ:=Lib.hid hsz
  clear B1 hgr hc hsz
  have y1:IntKind.i64.wrap ((at_:Int)+1-1)=(at_:Int):=by rw [show (at_:Int)+1-1=at_ by omega];exact qW _ (by omega)
  have y2:((at_:Int)).toNat=at_:=by omega
  have y3:IntKind.i64.wrap x=x:=qW _ (by omega)
  have ym1:0≤x % n:=vJ _ (by omega)
  have ym2:x % n<n:=kL _ (by omega)
  have y4:IntKind.i64.wrap (x % n)=x % n:=qW _ (by omega)
  have y5:(n == 0)=false:=by simp;omega
  go_quiet (fail)
  go_wp2_with fail
  go_ret
  exact ⟨x % n,at_+1,rfl,ym1,ym2,by omega,HB1.out.drewN _,⟨HG.out.os,HG.out.tape,HG.out.output,HG.out.size,HG.out.block⟩,HSZ.out⟩
 ·have d1:decide ((L.length:Int)≤(at_:Int))=true:=by simp;omega
  go_enter Try.func44,Try.ntmps44
  go_wp2_with fail
  go_quiet (fail)
  go_wp2_with fail
  go_ret
  exact ⟨0,at_,rfl,by omega,by omega,hat,HB.out.drewN _,⟨rfl,rfl,rfl,Nat.le_refl _,fun _ _ _=>rfl⟩,rfl⟩
end Go.Proofs.Yticieifacalocaa
