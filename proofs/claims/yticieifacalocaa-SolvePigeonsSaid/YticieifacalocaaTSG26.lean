/- ClausesRef Problem RefLaw DFit SolS -/
import Derived.Test.YticieifacalocaaTSG25
import Derived.Test.YticieifacalocaaTSG17
namespace Go.Proofs.Yticieifacalocaa
open Go.RowKit
def RClsRet (w:World) (r:List (List Int) × Bool) (e:Ending) (w':World):Prop :=
 (r.2=true∧∃v,e = .returned (.tuple #[v, .int .i64 (-1)])∧ClsOk w r.1 v w')∨(r.2=false∧e = .returned (.tuple #[.slice none 0 0, .int .i64 (r.1.length:Int)])∧Below w.heap.size w w')
theorem yz (X ints x:Int) (h1:0≤X) (h2:X<ints) (h3:2≤ints) (h4:ints≤6) (hx:0≤x) :
  ∃Y Z:Int,x % (ints-1)=Y∧x.tmod (ints-1)=Y∧(X+1+Y) % ints=Z∧(X+1+Y).tmod ints=Z∧0≤Y∧Y<ints-1∧0≤Z∧Z<ints∧Z≠X:=by
 have hy0:0≤x % (ints-1):=Int.emod_nonneg _ (by omega)
 have hy1:x % (ints-1)<ints-1:=Int.emod_lt_of_pos _ (by omega)
 refine ⟨x % (ints-1),(X+1+x % (ints-1)) % ints,rfl,yZ hx,rfl,yZ (by omega),hy0,hy1,Int.emod_nonneg _ (by omega),Int.emod_lt_of_pos _ (by omega),?_⟩
 generalize x % (ints-1)=Y at *
 have:ints=2∨ints=3∨ints=4∨ints=5∨ints=6:=by omega
 rcases this with rfl|rfl|rfl|rfl|rfl<;>omega
def room (g:Nat) (wr:World):Nat:=match wr.cell? ⟨g,3,none⟩ with
 | some (.slice _ n _)=>40-n
 | _=>0
theorem runS_lenT {f:Form} {a cs:List (List Int)} {l:List Stp} (h:wZ f a l=(cs,true)):cs.length=a.length+l.length:=by
 induction l generalizing a with
 | nil=>rw [wZ] at h;injection h with h _;rw [h];simp
 | cons s l ih =>
  rw [wZ] at h
  cases e:deriv f s a with
  | none=>rw [e] at h;injection h with _ h;cases h
  | some c=>rw [e] at h;have:=ih h;simp at this ⊢;omega
def aF (atoms:List Diff) (bs:List Bool) (xs:List Int):Prop:=∀(i:Nat) (d:Diff),atoms[i]? = some d→bs[i]? = some (decide (gi xs d.x-gi xs d.y≤d.c))
theorem rV {atoms:List Diff} {bs:List Bool} {xs:List Int} (hf:aF atoms bs xs) {lit:Int} {d:Diff} (hb:bound atoms lit=some d):(holds bs lit=true∧gi xs d.x-gi xs d.y≤d.c)∨holds bs (-lit)=true:=by
 rcases cE lit with rfl|⟨n,rfl⟩|⟨n,rfl⟩
 ·rw [bound_zero] at hb;cases hb
 ·rw [aV] at hb
  have h1:=hf n d hb
  by_cases h:gi xs d.x-gi xs d.y≤d.c
  ·refine .inl ⟨?_,h⟩
   rw [dM,List.getD_eq_getElem?_getD,h1];simp [h]
  ·refine .inr ?_
   rw [cB,h1];simp [h]
 ·rw [aX] at hb
  obtain ⟨a,ha,rfl⟩:=qO.1 hb
  have h1:=hf n a ha
  by_cases h:gi xs a.x-gi xs a.y≤a.c
  ·refine .inr ?_
   rw [show -(-((n:Int)+1))=(n:Int)+1 by omega,dM,List.getD_eq_getElem?_getD,h1];simp [h]
  ·refine .inl ⟨?_,?_⟩
   ·rw [cB,h1];simp [h]
   ·simp only [Diff.opp];omega
theorem chain_sum (X:Int→Int) (ds:List Diff) (d0:Diff) (h:∀(i:Nat) (a b:Diff),(d0::ds)[i]? = some a→(d0::ds)[i+1]? = some b→a.y=b.x) :
  ((d0::ds).map fun d=>X d.x-X d.y).sum=X d0.x-X ((d0::ds).getLast (by simp)).y:=by
 induction ds generalizing d0 with
 | nil=>simp
 | cons d1 r ih =>
  have h01:=h 0 d0 d1 rfl rfl
  have:=ih d1 fun i a b h1 h2=>h (i+1) a b h1 h2
  rw [qD,kX,this,List.getLast_cons (List.cons_ne_nil d1 r),h01]
  omega
theorem cyc_sum (X:Int→Int) {ds:List Diff} (h:eK ds ds.length):(ds.map fun d=>X d.x-X d.y).sum=0:=by
 cases ds with
 | nil=>rfl
 | cons d0 r =>
  rw [chain_sum X r d0 fun i a b h1 h2 => ?_]
  ·have hlast:(d0::r)[r.length]? = some ((d0::r).getLast (by simp)):=by
    rw [uI];simp
   have:=h r.length _ d0 (by simp) hlast (by simp)
   rw [this];omega
  ·have hi:=(zG.1 h2).1
   refine h i a b (by omega) h1 ?_
   rw [vL hi];exact h2
theorem sum_le_map {α:Type} (p q:α→Int) (l:List α) (h:∀d∈l,p d≤q d):(l.map p).sum≤(l.map q).sum:=by
 induction l with
 | nil=>simp
 | cons d r ih =>
  have h1:=h d (by simp)
  have h2:=ih fun d hd=>h d (by simp [hd])
  simp only [qD,kX]
  omega
theorem cyc_no (X:Int→Int) {ds:List Diff} (h:Cyc ds):∃d∈ds,¬X d.x-X d.y≤d.c:=by
 apply qE
 intro hn
 have h1:=cyc_sum X h.2.1
 have h2:=sum_le_map (fun d:Diff=>X d.x-X d.y) (fun d:Diff=>d.c) ds fun d hd=>qE fun hc=>hn ⟨d,hd,hc⟩
 have h3:=h.2.2
 unfold csum at h3
 have e:(ds.map fun d:Diff=>d.c)=ds.map Diff.c:=rfl
 rw [e] at h2
 omega
theorem lG {xs c:List Int} (h:wL xs=some c) (p:Int→Bool):c.any p=xs.any p:=by
 have hs:=gF xs
 rw [h] at hs
 rw [Bool.eq_iff_iff,xY,xY]
 exact ⟨fun ⟨x,h1,h2⟩=>⟨x,(hs.2.1 x).1 h1,h2⟩,fun ⟨x,h1,h2⟩=>⟨x,(hs.2.1 x).2 h1,h2⟩⟩
theorem bnds_mem {atoms:List Diff} {lits:List Int} {ds:List Diff} (h:iR atoms lits=some ds) {d:Diff} (hd:d∈ds):∃x∈lits,bound atoms x=some d:=by
 have h1:=bB.1 h
 have h2:some d∈ds.map some:=List.mem_map.2 ⟨d,hd,rfl⟩
 rw [←h1] at h2
 obtain ⟨x,h3,h4⟩:=List.mem_map.1 h2
 exact ⟨x,h3,h4⟩
theorem holds_one (bs:List Bool) (v:Int) (h:holds bs v=true):holds bs (-v)=false:=by
 rcases cE v with rfl|⟨n,rfl⟩|⟨n,rfl⟩
 ·rfl
 ·rw [dM,List.getD_eq_getElem?_getD] at h
  rw [cB]
  cases e:bs[n]? with
  | none=>rfl
  | some b=>rw [e] at h;simp at h;simp [h]
 ·rw [cB] at h
  rw [show -(-((n:Int)+1))=(n:Int)+1 by omega,dM,List.getD_eq_getElem?_getD]
  cases e:bs[n]? with
  | none=>rw [e] at h;cases h
  | some b=>rw [e] at h;simp at h;simp [h]
theorem pS {f:Form} {bs:List Bool} {xs:List Int} (hf:aF f.atoms bs xs) (hc:∀c∈f.clauses,c.any (holds bs)=true) {s:Stp} {cs:List (List Int)} (hcs:∀c∈cs,c.any (holds bs)=true) {c:List Int} (h:deriv f s cs=some c):c.any (holds bs)=true:=by
 unfold deriv at h
 split at h
 ·split at h
  ·obtain ⟨a,h1,h2⟩:=yH.1 h
   rw [lG h2]
   exact hc a (List.mem_of_getElem? h1)
  ·cases h
 ·split at h
  ·unfold cyc at h
   split at h
   ·rename_i ds hds
    split at h
    ·rename_i hcy
     rw [lG h,xY]
     obtain ⟨d,hd,hno⟩:=cyc_no (gi xs) (show Cyc ds from by simpa [cycB] using hcy)
     obtain ⟨x,hx,hbx⟩:=bnds_mem hds hd
     rcases rV hf hbx with ⟨_,h2⟩|h2
     ·exact absurd h2 hno
     ·exact ⟨-x,List.mem_map.2 ⟨x,hx,rfl⟩,h2⟩
    ·cases h
   ·cases h
  ·split at h
   ·split at h
    ·obtain ⟨a,h1,h2⟩:=yH.1 h
     obtain ⟨b,h3,h4⟩:=yH.1 h2
     unfold res at h4
     split at h4
     ·rw [lG h4]
      have ha:=hcs a (List.mem_of_getElem? h1)
      have hb:=hcs b (List.mem_of_getElem? h3)
      rw [xY] at ha hb ⊢
      obtain ⟨x,hx,hx2⟩:=ha
      obtain ⟨y,hy,hy2⟩:=hb
      by_cases e1:x=s.var+1
      ·by_cases e2:y = -(s.var+1)
       ·subst e1 e2
        have:=holds_one bs _ hx2
        rw [this] at hy2;cases hy2
       ·exact ⟨y,List.mem_append_right _ (yU.2 ⟨hy,by simpa using e2⟩),hy2⟩
      ·exact ⟨x,qM _ (yU.2 ⟨hx,by simpa using e1⟩),hx2⟩
     ·cases h4
    ·cases h
   ·cases h
theorem runS_holds {f:Form} {bs:List Bool} {xs:List Int} (hf:aF f.atoms bs xs) (hc:∀c∈f.clauses,c.any (holds bs)=true) {a cs:List (List Int)} {l:List Stp} {b:Bool} (h:wZ f a l=(cs,b)) (ha:∀c∈a,c.any (holds bs)=true):∀c∈cs,c.any (holds bs)=true:=by
 induction l generalizing a with
 | nil=>rw [wZ] at h;injection h with h _;rw [←h];exact ha
 | cons s l ih =>
  rw [wZ] at h
  cases e:deriv f s a with
  | none=>rw [e] at h;injection h with h _;rw [←h];exact ha
  | some c =>
   rw [e] at h
   refine ih h fun c' hc' => ?_
   rcases zL.1 hc' with hc'|hc'
   ·exact ha c' hc'
   ·simp at hc';subst hc';exact pS hf hc ha e
def s0:Stp:=⟨0,0,[],0,0,0⟩
def ndStep (l:List Stp) (nd:List Bool) (i:Nat):List Bool :=
 if nd.getD i false=true∧(l.getD i s0).kind=3 then (nd.set (l.getD i s0).p.toNat true).set (l.getD i s0).q.toNat true else nd
def ndFrom (l:List Stp):Nat→List Bool
 | 0=>(List.replicate l.length false).set (l.length-1) true
 | j+1=>ndStep l (ndFrom l j) (l.length-1-j)
def nd (l:List Stp):List Bool:=ndFrom l l.length
def fitD (n:Nat) (d:Diff):Prop:=0≤d.x∧d.x<n∧0≤d.y∧d.y<n
set_option maxRecDepth 100000 in
theorem fitc_any (d:Diff) (n g:Nat) (W:World) (hd:fitD n d) (hb:Blk W g 3 #[.int .i64 (n:Int)]) :
  Calls Try.prog 96 #[.agg #[.int .i64 d.x, .int .i64 d.y, .int .i64 d.c], .pointer (some ⟨g,0,none⟩)] W fun e w'=>e = .returned (.bool false)∧Below W.heap.size W w':=by
 obtain ⟨d0,d1,d2,d3⟩:=hd
 have HB:=Lib.hid (((zN W.heap.size W).alloc (Nat.le_refl _) (.cells #[.int .i64 d.x, .int .i64 d.y, .int .i64 d.c] 50)))
 have b0:=(Blk.new W 50 #[.int .i64 d.x, .int .i64 d.y, .int .i64 d.c]).cell 0
 have b1:=(Blk.new W 50 #[.int .i64 d.x, .int .i64 d.y, .int .i64 d.c]).cell 1
 have q0:=(hb.alloc (.cells #[.int .i64 d.x, .int .i64 d.y, .int .i64 d.c] 50)).cell 0
 simp only [zA,zB,zC] at b0 b1 q0
 have y1:decide (d.x<0)=false:=by simp;omega
 have y2:decide (d.x≥(n:Int))=false:=by simp;omega
 have y3:decide (d.y<0)=false:=by simp;omega
 have y4:decide (d.y≥(n:Int))=false:=by simp;omega
 clear hb
 go_enter Try.func96,Try.ntmps96
 go_upto_region 1 with fail
 generalize W.alloc (.cells #[.int .i64 d.x, .int .i64 d.y, .int .i64 d.c] 50)=W1 at *
 go_wp2_with fail
 go_ret
 exact ⟨rfl,HB.out⟩
set_option maxRecDepth 100000 in
theorem idxD_any (v:Value) (l:List Diff) (n g:Nat) (w:World) (hv:Diffs w v l) (hf:∀d∈l,fitD n d) (hb:Blk w g 3 #[.int .i64 (n:Int)]) :
  Calls Try.prog 111 #[v, .func (.func 96) #[] #[.pointer (some ⟨g,0,none⟩)]] w fun e w'=>e = .returned (.int .i64 (-1))∧Below w.heap.size w w':=by
 have HV:=Lib.hid hv
 have HF:=Lib.hid hf
 have HB:=Lib.hid hb
 obtain ⟨A,c,rfl,h1,h2,h3,hr⟩:=hv
 unfold maxLen at h2
 clear h3 hr hb hf
 go_enter Try.func111,Try.ntmps111
 go_wp2_with fail
 go_loopw [5,8] (fun _ i wr=>∃k:Nat,k≤l.length∧i = .int .i64 k∧Below w.heap.size w wr) (fun _ i _=>l.length-(intOf i).toNat)
 case atStart=>exact ⟨0,by omega,rfl,zN _ _⟩
 case round =>
  obtain ⟨k,hk,rfl,hbw⟩:=hrel
  have HBW:=Lib.hid hbw
  clear hbw
  by_cases hlt:k<l.length
  ·obtain ⟨d,hd⟩:∃d,l[k]? = some d:=⟨_,List.getElem?_eq_getElem hlt⟩
   obtain ⟨A',c',hv', -, -, -,hrd⟩:=HV.out.keep HBW.out
   injection hv' with e1 e2 e3
   subst e1 e3
   obtain ⟨b1,o1,rfl,hb1,hx1,hy1,hz1⟩:=hrd.diff hd
   have HC:Hid (Calls Try.prog 96 #[.agg #[.int .i64 d.x, .int .i64 d.y, .int .i64 d.c], .pointer (some ⟨g,0,none⟩)] wr fun e w'=>e = .returned (.bool false)∧Below wr.heap.size wr w'):=Lib.hid (fitc_any d n g wr (HF.out d (List.mem_of_getElem? hd)) (HB.out.keep HBW.out))
   have y1:(k:Int)<(l.length:Int):=by omega
   clear hd hrd
   go_wp2_with fail
   refine HC.out.mono ?_
   rintro e w' ⟨rfl,hb'⟩
   have HB2:=Lib.hid (HBW.out.trans (hb'.mono HBW.out.size))
   clear hb' HC
   go_wp2_with fail
   go_roundw
   case rel=>exact ⟨k+1,by omega,by go_num,HB2.out⟩
   case measure=>simp [intOf];omega
  ·go_wp2_with fail
   go_ret
   exact ⟨rfl,HBW.out⟩
set_option maxRecDepth 100000 in
theorem cntD_any (v:Value) (l:List Diff) (n g:Nat) (w:World) (hv:Diffs w v l) (hf:∀d∈l,fitD n d) (hb:Blk w g 3 #[.int .i64 (n:Int)]) :
  Calls Try.prog 95 #[v, .func (.func 96) #[] #[.pointer (some ⟨g,0,none⟩)]] w fun e w'=>e = .returned (.bool false)∧Below w.heap.size w w':=by
 have HI:=Lib.hid (idxD_any v l n g w hv hf hb)
 obtain ⟨A,c,rfl,h1,h2,h3,hr⟩:=hv
 clear h3 hr h2 hf hb
 go_enter Try.func95,Try.ntmps95
 go_wp2_with fail
 refine HI.out.mono ?_
 rintro e w' ⟨rfl,hb⟩
 have HB:=Lib.hid hb
 clear hb
 go_wp2_with fail
 go_ret
 exact ⟨rfl,HB.out⟩
set_option maxRecDepth 100000 in
theorem fits_any (v:Value) (l:List Diff) (n:Nat) (w:World) (hv:Diffs w v l) (hn:n≤32) (hf:∀d∈l,fitD n d) :
  Calls Try.prog 86 #[.int .i64 (n:Int),v] w fun e w'=>e = .returned (.bool true)∧Below w.heap.size w w':=by
 have HC:=Lib.hid (cntD_any v l n w.heap.size (w.alloc (.cells #[.int .i64 (n:Int)] 3)) (hv.keep ((zN _ _).alloc (Nat.le_refl _) _)) hf (Blk.new w _ _))
 have HB:=Lib.hid (((zN w.heap.size w).alloc (Nat.le_refl _) (.cells #[.int .i64 (n:Int)] 3)))
 have b0:=(Blk.new w 3 #[.int .i64 (n:Int)]).cell 0
 simp only [zA,zB] at b0
 obtain ⟨A,c,rfl,h1,h2,h3,hr⟩:=hv
 have y1:decide ((n:Int)<0)=false:=by simp
 have y2:decide ((n:Int) > 32)=false:=by simp;omega
 have y3:decide (32<n)=false:=by simp [hn]
 have hmf:∀(fn:Fn) (first cap:Array Value) (W:World),(Instr.makeFunc fn first cap).run Try.prog W = .ok (.func fn first cap) W:=fun _ _ _ _=>rfl
 clear h3 hr h2 hf
 go_enter Try.func86,Try.ntmps86
 go_upto_region 1 with fail
 generalize w.alloc (.cells #[.int .i64 (n:Int)] 3)=W1 at *
 go_wp2_with fail
 refine HC.out.mono ?_
 rintro e w' ⟨rfl,hb⟩
 have HB2:=Lib.hid (HB.out.trans (hb.mono HB.out.size))
 clear hb
 go_wp2_with fail
 go_ret
 exact ⟨rfl,HB2.out⟩
def Arc.cells (a:Arc):List Value:=[.int .i64 a.lit, .int .i64 a.x, .int .i64 a.y, .int .i64 a.c]
def acs (l:List Arc):List Value:=l.flatMap Arc.cells
def aM (l:List (Nat × Int)):List Value:=l.flatMap fun p=>[.int .i64 (p.1:Int), .int .i64 p.2]
def cbs (xs:List Bool):List Value:=xs.map Value.bool
def ocs (o:Org) (p:Value × Value):List Value:=[.int .i64 o.leaf.kind, .int .i64 o.leaf.index,p.1, .int .i64 o.leaf.p, .int .i64 o.leaf.q, .int .i64 o.leaf.var, .int .i64 (o.first:Int),p.2]
def orgs (os:List Org) (ps:List (Value × Value)):List Value:=(os.zip ps).flatMap fun z=>ocs z.1 z.2
structure SV where
 ob:Value
 vn:Value
 ga:Nat
 sa:List Value
 gc:Nat
 fi:Int
 fb:Int
 av:Value
 cv:Value
 vo:Value
 ol:List (Value × Value)
 gu:Nat
 gy:Nat
def SV.rest (U:SV) (N B:Nat) (rst:Int):List Value :=
 [U.ob,U.vn, .slice (some ⟨U.ga,0,none⟩) N N, .slice (some ⟨U.gc,0,none⟩) B B, .int .i64 U.fi, .int .i64 U.fb,U.av,U.cv,U.vo, .slice (some ⟨U.gu,0,none⟩) B B, .slice (some ⟨U.gy,0,none⟩) B B, .int .i64 rst]
structure SolM (κ:Kap) (w:World) (g:Nat) (s:Sol) (V:EV) (U:SV):Prop where
 eng:EngM κ w g 89 (U.rest s.num.length s.e.val.length s.rst) 0 s.e V
 num:Hold κ w .num 3 1 U.vn s.num.length (ci s.num)
 arcs:HB κ w .arcs U.ga 139 U.sa.toArray
 al:U.sa.length=s.num.length
 aln:s.arcs.length=s.num.length
 ar:∀y u,U.sa[y]? = some u→Hold κ w (.ar y) 126 4 u (s.arcs.getD y []).length (acs (s.arcs.getD y []))
 act:HB κ w .act U.gc 4 (cbs s.act).toArray
 actl:s.act.length=s.e.val.length
 org:Hold κ w .org 94 8 U.vo s.org.length (orgs s.org U.ol)
 oll:U.ol.length=s.org.length
 och:∀c o p,s.org[c]? = some o→U.ol[c]? = some p→Hold κ w (.olt c) 3 1 p.1 o.leaf.lits.length (ci o.leaf.lits)∧Hold κ w (.och c) 115 2 p.2 o.chain.length (aM o.chain)
 unt:HB κ w .unt U.gu 3 (ci s.unt).toArray
 untl:s.unt.length=s.e.val.length
 acty:HB κ w .acty U.gy 3 (ci s.acty).toArray
 actyl:s.acty.length=s.e.val.length
 arl:∀y,∀a∈s.arcs.getD y [], -1048576≤a.lit∧a.lit≤1048576
def wQ:Col→Prop
 | .tmp _=>False
 | _=>True
theorem dN {s:Col} (h:wM s):wQ s:=by cases s<;>first|trivial|exact h
section
variable {κ κ':Kap} {w w':World} {g:Nat} {s:Sol} {V V':EV} {U:SV} {S:Col→Prop}
theorem HB.rc {c:Col} {k:Nat} {t:TypeId} {cs:Array Value} (h:HB κ w c k t cs) (hk:∀j,κ j=some c→κ' j=some c):HB κ' w c k t cs:=⟨h.b,hk _ h.k⟩
theorem Hold.rc {c:Col} {e:TypeId} {sz n:Nat} {v:Value} {xs:List Value} (h:Hold κ w c e sz v n xs) (hk:∀j,κ j=some c→κ' j=some c):Hold κ' w c e sz v n xs:=⟨h.o,fun k hv=>hk _ (h.k k hv)⟩
theorem MapC.rc {b B:Nat} {m:Int→Value} (h:MapC κ w b B m) (hk:∀j,κ j=some .wat→κ' j=some .wat):MapC κ' w b B m:=⟨h.d,hk _ h.k⟩
theorem EngM.rc {t:TypeId} {rest:List Value} {x:Int} {e:Eng} (h:EngM κ w g t rest x e V) (hk:∀c,wM c→∀j,κ j=some c→κ' j=some c):EngM κ' w g t rest x e V :=
 ⟨h.blk.rc (hk _ trivial),h.cls.rc (hk _ trivial),fun c u hu=>(h.cl c u hu).rc (hk _ trivial),h.inp.rc (hk _ trivial),h.val.rc (hk _ trivial),h.rsn.rc (hk _ trivial),h.lvl.rc (hk _ trivial),h.rl,h.ll,h.tr.rc (hk _ trivial),h.st.rc (hk _ trivial),h.wat.rc (hk _ trivial),fun l hl h0=>(h.wt l hl h0).rc (hk _ trivial),h.B,h.v3⟩
theorem SolM.rc (h:SolM κ w g s V U) (hk:∀c,wQ c→∀j,κ j=some c→κ' j=some c):SolM κ' w g s V U :=
 ⟨h.eng.rc fun c hc=>hk c (dN hc),h.num.rc (hk _ trivial),h.arcs.rc (hk _ trivial),h.al,h.aln,fun y u hu=>(h.ar y u hu).rc (hk _ trivial),h.act.rc (hk _ trivial),h.actl,h.org.rc (hk _ trivial),h.oll,
  fun c o p ho hp=>⟨(h.och c o p ho hp).1.rc (hk _ trivial),(h.och c o p ho hp).2.rc (hk _ trivial)⟩,h.unt.rc (hk _ trivial),h.untl,h.acty.rc (hk _ trivial),h.actyl,h.arl⟩
theorem SolM.fr (h:SolM κ w g s V U) (f:Fr κ κ' w w' S) (hs:∀c,wQ c→¬S c):SolM κ' w' g s V U :=
 ⟨h.eng.fr f fun c hc=>hs c (dN hc),h.num.fr f (hs _ trivial),h.arcs.fr f (hs _ trivial),h.al,h.aln,fun y u hu=>(h.ar y u hu).fr f (hs _ trivial),h.act.fr f (hs _ trivial),h.actl,h.org.fr f (hs _ trivial),h.oll,
  fun c o p ho hp=>⟨(h.och c o p ho hp).1.fr f (hs _ trivial),(h.och c o p ho hp).2.fr f (hs _ trivial)⟩,h.unt.fr f (hs _ trivial),h.untl,h.acty.fr f (hs _ trivial),h.actyl,h.arl⟩
theorem SolM.keep (h:SolM κ w g s V U) (hb:Below w.heap.size w w'):SolM κ w' g s V U:=h.fr (Fr.kept κ hb (fun _=>False)) fun _ _=>id
theorem SolM.alloc (h:SolM κ w g s V U) (o:Obj):SolM κ (w.alloc o) g s V U:=h.fr (Fr.alloc κ w o (fun _=>False)) fun _ _=>id
theorem SolM.drewN (h:SolM κ w g s V U) (n:Nat):SolM κ (w.drewN n) g s V U:=h.fr (Fr.drewN κ w n (fun _=>False)) fun _ _=>id
theorem SolM.withE (h:SolM κ w g s V U) {e:Eng} (f:Fr κ κ' w w' S) (hS:∀c,S c→wM c) (he:EngM κ' w' g 89 (U.rest s.num.length s.e.val.length s.rst) 0 e V') (hl:e.val.length=s.e.val.length):SolM κ' w' g { s with e:=e } V' U:=by
 have n1:∀c,¬wM c→¬S c:=fun c hc hs=>hc (hS c hs)
 exact ⟨by rw [←hl] at he;exact he,h.num.fr f (n1 _ id),h.arcs.fr f (n1 _ id),h.al,h.aln,fun y u hu=>(h.ar y u hu).fr f (n1 _ id),h.act.fr f (n1 _ id),h.actl.trans hl.symm,h.org.fr f (n1 _ id),h.oll,
  fun c o p ho hp=>⟨(h.och c o p ho hp).1.fr f (n1 _ id),(h.och c o p ho hp).2.fr f (n1 _ id)⟩,h.unt.fr f (n1 _ id),h.untl.trans hl.symm,h.acty.fr f (n1 _ id),h.actyl.trans hl.symm,h.arl⟩
theorem SolM.setVal (h:SolM κ w g s V U) (v:Nat) {y:Int} (hy:y=0∨y=1∨y = -1):SolM κ (w.setCell ⟨V.gv,v,none⟩ (.int .i8 y)) g { s with e:={ s.e with val:=s.e.val.set v y } } V U :=
 h.withE (frs κ w h.eng.val.k) (fun c hc=>by subst hc;trivial) (h.eng.setVal v hy) (by simp)
theorem SolM.setRsn (h:SolM κ w g s V U) (v:Nat) (y:Int):SolM κ (w.setCell ⟨V.gr,v,none⟩ (.int .i64 y)) g { s with e:={ s.e with rsn:=s.e.rsn.set v y } } V U :=
 h.withE (frs κ w h.eng.rsn.k) (fun c hc=>by subst hc;trivial) (h.eng.setRsn v y) rfl
theorem EngM.setRest {t:TypeId} {rest:List Value} {x:Int} {e:Eng} (h:EngM κ w g t rest x e V) (i:Nat) (v:Value):EngM κ (w.setCell ⟨g,9+i,none⟩ v) g t (rest.set i v) x e V:=by
 have f:=frs κ w (i:=9+i) (u:=v) h.blk.k
 refine ⟨?_,h.cls.fr f (by simp),fun c u hu=>(h.cl c u hu).fr f (by simp),h.inp.fr f (by simp),h.val.fr f (by simp),h.rsn.fr f (by simp),h.lvl.fr f (by simp),h.rl,h.ll,h.tr.fr f (by simp),h.st.fr f (by simp),h.wat.fr f (by simp),fun l hl h0=>(h.wt l hl h0).fr f (by simp),h.B,h.v3⟩
 have:=h.blk.set_ (9+i) v
 rw [wT,kJ _ _ (by simp [EV.cells])] at this
 simpa [EV.cells] using this
theorem SolM.others (h:SolM κ w g s V U) (f:Fr κ κ' w w' (fun c=>c = .slv)) {U':SV} {r:Int} (he:EngM κ' w' g 89 (U'.rest s.num.length s.e.val.length r) 0 s.e V') (hU:U'.vn=U.vn∧U'.ga=U.ga∧U'.sa=U.sa∧U'.gc=U.gc∧U'.vo=U.vo∧U'.ol=U.ol∧U'.gu=U.gu∧U'.gy=U.gy):SolM κ' w' g { s with rst:=r } V' U':=by
 obtain ⟨ob,vn,ga,sa,gc,fi,fb,av,cv,vo,ol,gu,gy⟩:=U
 obtain ⟨ob',vn',ga',sa',gc',fi',fb',av',cv',vo',ol',gu',gy'⟩:=U'
 obtain ⟨h1,h2,h3,h4,h5,h6,h7,h8⟩:=hU
 simp only at h1 h2 h3 h4 h5 h6 h7 h8
 subst h1 h2 h3 h4 h5 h6 h7 h8
 exact ⟨he,h.num.fr f (by simp),h.arcs.fr f (by simp),h.al,h.aln,fun y u hu=>(h.ar y u hu).fr f (by simp),h.act.fr f (by simp),h.actl,h.org.fr f (by simp),h.oll,
  fun c o p ho hp=>⟨(h.och c o p ho hp).1.fr f (by simp),(h.och c o p ho hp).2.fr f (by simp)⟩,h.unt.fr f (by simp),h.untl,h.acty.fr f (by simp),h.actyl,h.arl⟩
theorem SolM.setRst (h:SolM κ w g s V U) (r:Int):SolM κ (w.setCell ⟨g,20,none⟩ (.int .i64 r)) g { s with rst:=r } V U :=
 h.others (frs κ w h.eng.blk.k) (h.eng.setRest 11 (.int .i64 r)) ⟨rfl,rfl,rfl,rfl,rfl,rfl,rfl,rfl⟩
theorem eR (xs:List Bool) (i:Nat) (y:Bool):cbs (xs.set i y)=(cbs xs).set i (.bool y):=by simp [cbs,List.map_set]
theorem SolM.setAct (h:SolM κ w g s V U) (v:Nat) (b:Bool):SolM κ (w.setCell ⟨U.gc,v,none⟩ (.bool b)) g { s with act:=s.act.set v b } V U:=by
 have f:=frs κ w (i:=v) (u := .bool b) h.act.k
 refine ⟨h.eng.fr f fun c hc e=>by subst e;exact hc,h.num.fr f (by simp),h.arcs.fr f (by simp),h.al,h.aln,fun y u hu=>(h.ar y u hu).fr f (by simp),?_,by simp [h.actl],h.org.fr f (by simp),h.oll,
  fun c o p ho hp=>⟨(h.och c o p ho hp).1.fr f (by simp),(h.och c o p ho hp).2.fr f (by simp)⟩,h.unt.fr f (by simp),h.untl,h.acty.fr f (by simp),h.actyl,h.arl⟩
 have:=h.act.set_ v (.bool b)
 rw [wT] at this
 show HB _ _ _ _ _ (cbs (s.act.set v b)).toArray
 rw [eR];exact this
theorem SolM.setUnt (h:SolM κ w g s V U) (v:Nat) (y:Int):SolM κ (w.setCell ⟨U.gu,v,none⟩ (.int .i64 y)) g { s with unt:=s.unt.set v y } V U:=by
 have f:=frs κ w (i:=v) (u := .int .i64 y) h.unt.k
 refine ⟨h.eng.fr f fun c hc e=>by subst e;exact hc,h.num.fr f (by simp),h.arcs.fr f (by simp),h.al,h.aln,fun y u hu=>(h.ar y u hu).fr f (by simp),h.act.fr f (by simp),h.actl,h.org.fr f (by simp),h.oll,
  fun c o p ho hp=>⟨(h.och c o p ho hp).1.fr f (by simp),(h.och c o p ho hp).2.fr f (by simp)⟩,?_,by simp [h.untl],h.acty.fr f (by simp),h.actyl,h.arl⟩
 have:=h.unt.set_ v (.int .i64 y)
 rw [wT] at this
 show HB _ _ _ _ _ (ci (s.unt.set v y)).toArray
 rw [bL];exact this
theorem SolM.setActy (h:SolM κ w g s V U) (v:Nat) (y:Int):SolM κ (w.setCell ⟨U.gy,v,none⟩ (.int .i64 y)) g { s with acty:=s.acty.set v y } V U:=by
 have f:=frs κ w (i:=v) (u := .int .i64 y) h.acty.k
 refine ⟨h.eng.fr f fun c hc e=>by subst e;exact hc,h.num.fr f (by simp),h.arcs.fr f (by simp),h.al,h.aln,fun y u hu=>(h.ar y u hu).fr f (by simp),h.act.fr f (by simp),h.actl,h.org.fr f (by simp),h.oll,
  fun c o p ho hp=>⟨(h.och c o p ho hp).1.fr f (by simp),(h.och c o p ho hp).2.fr f (by simp)⟩,h.unt.fr f (by simp),h.untl,?_,by simp [h.actyl],h.arl⟩
 have:=h.acty.set_ v (.int .i64 y)
 rw [wT] at this
 show HB _ _ _ _ _ (ci (s.acty.set v y)).toArray
 rw [bL];exact this
theorem SolM.setNum (h:SolM κ w g s V U) {gn cap:Nat} (hv:U.vn = .slice (some ⟨gn,0,none⟩) s.num.length cap) (i:Nat) (y:Int):SolM κ (w.setCell ⟨gn,i,none⟩ (.int .i64 y)) g { s with num:=s.num.set i y } V U:=by
 have hk:κ gn=some .num:=h.num.k gn (by rw [hv];rfl)
 have f:=frs κ w (i:=i) (u := .int .i64 y) hk
 have hh:=h.num
 rw [hv] at hh
 refine ⟨?_,?_,h.arcs.fr f (by simp),by simp [h.al],by simp [h.aln],fun y u hu=>(h.ar y u hu).fr f (by simp),h.act.fr f (by simp),h.actl,h.org.fr f (by simp),h.oll,
  fun c o p ho hp=>⟨(h.och c o p ho hp).1.fr f (by simp),(h.och c o p ho hp).2.fr f (by simp)⟩,h.unt.fr f (by simp),h.untl,h.acty.fr f (by simp),h.actyl,h.arl⟩
 ·have:=h.eng.fr f fun c hc e=>by subst e;exact hc
  simpa using this
 ·have:=hh.set_ i (.int .i64 y)
  show Hold _ _ _ _ _ _ (s.num.set i y).length (ci (s.num.set i y))
  rw [bL,qA,hv];exact this
theorem SolM.putNum (h:SolM κ w g s V U) {v:Value} {num:List Int} (hl:num.length=s.num.length) (hn:Hold κ w .num 3 1 v num.length (ci num)):SolM κ (w.setCell ⟨g,10,none⟩ v) g { s with num:=num } V { U with vn:=v }:=by
 have f:=frs κ w (i:=10) (u:=v) h.eng.blk.k
 refine ⟨?_,hn.fr f (by simp),h.arcs.fr f (by simp),by simp [h.al,hl],by simp [h.aln,hl],fun y u hu=>(h.ar y u hu).fr f (by simp),h.act.fr f (by simp),h.actl,h.org.fr f (by simp),h.oll,
  fun c o p ho hp=>⟨(h.och c o p ho hp).1.fr f (by simp),(h.och c o p ho hp).2.fr f (by simp)⟩,h.unt.fr f (by simp),h.untl,h.acty.fr f (by simp),h.actyl,h.arl⟩
 have:=h.eng.setRest 1 v
 simp only [hl]
 exact this
theorem nV {xs:List (List Arc)} {i j:Nat} {a:List Arc} (h:i<xs.length):(xs.set i a).getD j []=if j=i then a else xs.getD j []:=by
 rw [List.getD_eq_getElem?_getD,List.getD_eq_getElem?_getD,kL]
 by_cases e:j=i
 ·subst e;simp [h]
 ·rw [if_neg (fun e'=>e e'.symm),if_neg e]
theorem SolM.putAr (h:SolM κ w g s V U) {y:Nat} (f:Fr κ κ' w w' (fun c=>c = .ar y)) {v:Value} {l:List Arc} (hy:y<s.num.length) (hn:Hold κ' w' (.ar y) 126 4 v l.length (acs l)) (hal:∀a∈l, -1048576≤a.lit∧a.lit≤1048576) :
  SolM κ' (w'.setCell ⟨U.ga,y,none⟩ v) g { s with arcs:=s.arcs.set y l } V { U with sa:=U.sa.set y v }∧Fr κ κ' w (w'.setCell ⟨U.ga,y,none⟩ v) (fun c=>c = .arcs∨c = .ar y):=by
 have ha:=h.arcs.fr f (by simp)
 have f2:=frs κ' w' (i:=y) (u:=v) ha.k
 have f3:Fr κ κ' w (w'.setCell ⟨U.ga,y,none⟩ v) (fun c=>c = .arcs∨c = .ar y):=(f.mono fun _ e => .inr e).trans (f2.mono fun _ e => .inl e)
 refine ⟨⟨h.eng.fr f3 fun c hc e=>by rcases e with rfl|rfl<;>exact hc,h.num.fr f3 (by simp),?_,by simp [h.al],by simp [h.aln],fun z u hu => ?_,h.act.fr f3 (by simp),h.actl,h.org.fr f3 (by simp),h.oll,
  fun c o p ho hp=>⟨(h.och c o p ho hp).1.fr f3 (by simp),(h.och c o p ho hp).2.fr f3 (by simp)⟩,h.unt.fr f3 (by simp),h.untl,h.acty.fr f3 (by simp),h.actyl,fun z a ha => ?_⟩,f3⟩
 ·have:=ha.set_ y v
  rw [wT] at this
  exact this
 ·simp only [kL] at hu
  show Hold _ _ _ _ _ _ ((s.arcs.set y l).getD z []).length (acs ((s.arcs.set y l).getD z []))
  rw [nV (by rw [h.aln];exact hy)]
  by_cases e:z=y
  ·subst e
   rw [if_pos rfl]
   rw [if_pos rfl,if_pos (by rw [h.al];exact hy)] at hu
   injection hu with hu
   subst hu
   exact hn.fr f2 (by simp)
  ·rw [if_neg e]
   rw [if_neg (fun e'=>e e'.symm)] at hu
   exact (h.ar z u hu).fr f3 (by simp [e])
 ·have ha2:a∈(s.arcs.set y l).getD z []:=ha
  rw [nV (by rw [h.aln];exact hy)] at ha2
  split at ha2
  ·exact hal a ha2
  ·exact h.arl z a ha2
theorem zip_app {α β:Type} {xs:List α} {ys:List β} (h:ys.length=xs.length) (x:α) (y:β):(xs++[x]).zip (ys++[y])=xs.zip ys++[(x,y)]:=by
 rw [List.zip_append h.symm];rfl
theorem orgs_app {os:List Org} {ps:List (Value × Value)} (h:ps.length=os.length) (o:Org) (p:Value × Value):orgs (os++[o]) (ps++[p])=orgs os ps++ocs o p:=by
 unfold orgs;rw [zip_app h];simp
theorem SolM.pushOrg (h:SolM κ w g s V U) (f:Fr κ κ' w w' (fun c=>c = .org)) {v:Value} {o:Org} {p:Value × Value} (ho:Hold κ' w' .org 94 8 v (s.org.length+1) (orgs s.org U.ol++ocs o p))
  (h1:Hold κ' w' (.olt s.org.length) 3 1 p.1 o.leaf.lits.length (ci o.leaf.lits)) (h2:Hold κ' w' (.och s.org.length) 115 2 p.2 o.chain.length (aM o.chain)) :
  SolM κ' (w'.setCell ⟨g,17,none⟩ v) g { s with org:=s.org++[o] } V { U with vo:=v,ol:=U.ol++[p] }∧Fr κ κ' w (w'.setCell ⟨g,17,none⟩ v) (fun c=>c = .org∨c = .slv):=by
 have he:=h.eng.fr f fun c hc e=>by subst e;exact hc
 have f2:=frs κ' w' (i:=17) (u:=v) he.blk.k
 have f3:Fr κ κ' w (w'.setCell ⟨g,17,none⟩ v) (fun c=>c = .org∨c = .slv):=(f.mono fun _ e => .inl e).trans (f2.mono fun _ e => .inr e)
 refine ⟨⟨he.setRest 8 v,h.num.fr f3 (by simp),h.arcs.fr f3 (by simp),h.al,h.aln,fun y u hu=>(h.ar y u hu).fr f3 (by simp),h.act.fr f3 (by simp),h.actl,?_,by simp [h.oll],
  fun c o' p' ho' hp' => ?_,h.unt.fr f3 (by simp),h.untl,h.acty.fr f3 (by simp),h.actyl,h.arl⟩,f3⟩
 ·have:=ho.fr f2 (by simp)
  show Hold _ _ _ _ _ _ (s.org++[o]).length (orgs (s.org++[o]) (U.ol++[p]))
  rw [orgs_app h.oll,zH]
  exact this
 ·simp only at ho' hp'
  rcases xJ c s.org.length with hc|hc|hc
  ·rw [zQ hc] at ho'
   rw [zQ (by rw [h.oll];exact hc)] at hp'
   exact ⟨(h.och c o' p' ho' hp').1.fr f3 (by simp),(h.och c o' p' ho' hp').2.fr f3 (by simp)⟩
  ·subst hc
   rw [zK (Nat.le_refl _),xT] at ho'
   rw [zK (by rw [h.oll];exact Nat.le_refl _),h.oll,xT] at hp'
   simp at ho' hp'
   subst ho' hp'
   exact ⟨h1.fr f2 (by simp),h2.fr f2 (by simp)⟩
  ·rw [List.getElem?_eq_none (by simp;omega)] at ho'
   cases ho'
def SV.same (U U':SV):Prop:=U'.ob=U.ob∧U'.fi=U.fi∧U'.fb=U.fb∧U'.av=U.av∧U'.cv=U.cv∧U'.ga=U.ga∧U'.gc=U.gc∧U'.gu=U.gu∧U'.gy=U.gy
theorem SV.same.refl (U:SV):U.same U:=⟨rfl,rfl,rfl,rfl,rfl,rfl,rfl,rfl,rfl⟩
theorem SV.same.trans {U1 U2 U3:SV} (h:U1.same U2) (k:U2.same U3):U1.same U3:=⟨k.1.trans h.1,k.2.1.trans h.2.1,k.2.2.1.trans h.2.2.1,k.2.2.2.1.trans h.2.2.2.1,k.2.2.2.2.1.trans h.2.2.2.2.1,k.2.2.2.2.2.1.trans h.2.2.2.2.2.1,k.2.2.2.2.2.2.1.trans h.2.2.2.2.2.2.1,k.2.2.2.2.2.2.2.1.trans h.2.2.2.2.2.2.2.1,k.2.2.2.2.2.2.2.2.trans h.2.2.2.2.2.2.2.2⟩
def wS (κ:Kap) (w:World) (g:Nat) (U0:SV) (S:Col→Prop) (r:Value) (s:Sol) (en:Ending) (w':World):Prop :=
 en = .returned r∧∃κ' V' U',SolM κ' w' g s V' U'∧Fr κ κ' w w' S∧U0.same U'
end
end Go.Proofs.Yticieifacalocaa
