/- Clauses BoundR CycleR NormalRef -/
import Derived.Test.YticieifacalocaaTSG23
namespace Go.Proofs.Yticieifacalocaa
open Go.RowKit
def ClsOk (w:World) (cs:List (List Int)) (v:Value) (w':World):Prop:=∃us,OwnMat w' w.heap.size (fun b=>w.heap.size≤b) v us cs∧Below w.heap.size w w'
structure CL (w wr:World) (fv:Array Value) (v:Value) (us:List Value) (cs:List (List Int)):Prop where
 b0:Blk wr w.heap.size 29 fv
 om:OwnMat wr (w.heap.size+1) (fun b=>w.heap.size+1≤b) v us cs
 ok:∀c∈cs,OkCl c
 hi:w.heap.size+1≤wr.heap.size
 bl:Below w.heap.size w wr
section
variable {w wr w' W:World} {fv:Array Value} {v:Value} {us:List Value} {cs:List (List Int)}
theorem CL.keep (h:CL w wr fv v us cs) (hb:Below wr.heap.size wr w'):CL w w' fv v us cs :=
 ⟨h.b0.keep hb,h.om.keep hb,h.ok,qB h.hi hb.size,h.bl.trans (hb.mono h.bl.size)⟩
theorem CL.push {u v':Value} {c:List Int} {o:Obj} (h:CL w W fv v us cs) (hW:∀g,v.ownBlock=some g→g<W.heap.size) (h':CL w w' fv v us cs) (hu:Own w' W.heap.size u c) (hc:OkCl c) (hlo:w.heap.size+1≤W.heap.size)
  {w2:World} (ho:w2.ownsRow (w.heap.size+1) 33 1 v' (us.length+1) (us++[u])) (hg:(w'.alloc o).grownBy w2 v.ownBlock) (hat:v'.ownBlock=v.ownBlock∨v'.ownBlock=some (w'.alloc o).heap.size):CL w w2 fv v' (us++[u]) (cs++[c]):=by
 have hlt:∀g,v.ownBlock=some g→w.heap.size+1≤g:=fun g e=>(h'.om.1.lt g e).1
 refine ⟨(h'.b0.alloc o).grown hg fun e=>by have:=hlt _ e.symm;omega,h'.om.push (hu.intsO fun b hb _ _=>⟨by omega,fun e=>by have:=hW b e.symm;omega⟩) ho hg hat,fun x hx => ?_,?_,?_⟩
 ·rcases zL.1 hx with hx|hx
  ·exact h.ok x hx
  ·rw [zI] at hx;subst hx;exact hc
 ·have:=hg.size;have:=h'.hi;simp at this ⊢;have h3:=hg.size;simp at h3;omega
 ·exact (h'.bl.alloc h'.bl.size o).grown hg (by have:=h'.bl.size;simp;omega) fun g e=>by have:=hlt g e;omega
theorem CL.out (h:CL w wr fv v us cs):ClsOk w cs v wr:=⟨us,⟨aQ h.om.1 (by omega),h.om.2.1,fun k u xs a b=>(h.om.2.2 k u xs a b).mono fun b _ hb=>⟨by have:=hb.1;omega,hb.2⟩⟩,h.bl⟩
end
def chk (r:List (List Int) × Bool) (n:Nat):Int × Int :=
 if r.2=true then (if n=0∨(r.1.getD (n-1) [])≠[] then ((n:Int),15) else (0,0)) else ((r.1.length:Int),15)
def ChkRet (w:World) (p:Int × Int) (e:Ending) (w':World):Prop:=e = .returned (.tuple #[.int .i64 p.1, .int .i64 p.2])∧Below w.heap.size w w'
theorem runS_len {f:Form}:∀(l:List Stp) (cs:List (List Int)),(wZ f cs l).2=true→(wZ f cs l).1.length=cs.length+l.length:=by
 intro l
 induction l with
 | nil=>intro cs _;simp [wZ]
 | cons s r ih =>
  intro cs h
  rw [wZ] at h ⊢
  cases hd:deriv f s cs with
  | none=>rw [hd] at h;cases h
  | some c =>
   rw [hd] at h
   have:=ih (cs++[c]) h
   rw [this];simp;omega
section
variable (i j:Value) (av cv:Value) (ds:List Diff) (w:World)
theorem pP (hb:Diffs w av ds) :
  Calls Try.prog 33 #[.agg #[i,j,av,cv], .int .i64 0] w fun e w'=>e = .returned (boundVal none)∧Below w.heap.size w w':=by
 obtain ⟨A,c,rfl,h1,h2,h3,hr⟩:=hb
 unfold maxLen at h2
 clear h3 hr
 go_enter Try.func33,Try.ntmps33
 go_wp2
 go_returns
 exact ⟨rfl,by go_grown⟩
theorem rbound_pos (n:Nat) (d:Diff) (hb:Diffs w av ds) (hd:ds[n]? = some d) (hl:n+1≤9223372036854775807) :
  Calls Try.prog 33 #[.agg #[i,j,av,cv], .int .i64 ((n:Int)+1)] w fun e w'=>e = .returned (boundVal (some d))∧Below w.heap.size w w':=by
 obtain ⟨A,c,rfl,h1,h2,h3,hr⟩:=hb
 unfold maxLen at h2
 have hlt:n<ds.length:=(zG.1 hd).1
 obtain ⟨b1,o1,rfl,hb1,hc1,hc2,hc3⟩:=hr.diff hd
 obtain ⟨x,y,z⟩:=d
 clear hd h3 hr
 have hz:(((n:Int)+1) == 0)=false:=by simp;omega
 have hz2:decide ((ds.length:Int)<(n:Int)+1)=false:=by simp;omega
 have hz3:decide ((n:Int)+1 < -(ds.length:Int))=false:=by simp;omega
 go_enter Try.func33,Try.ntmps33
 go_wp2
 go_returns
 exact ⟨rfl,by go_grown⟩
theorem pW (n:Nat) (hb:Diffs w av ds) (hge:ds.length≤n) (hl:n+1≤9223372036854775807) :
  Calls Try.prog 33 #[.agg #[i,j,av,cv], .int .i64 ((n:Int)+1)] w fun e w'=>e = .returned (boundVal none)∧Below w.heap.size w w':=by
 obtain ⟨A,c,rfl,h1,h2,h3,hr⟩:=hb
 unfold maxLen at h2
 clear h3 hr
 have hz:(((n:Int)+1) == 0)=false:=by simp;omega
 have hz2:decide ((ds.length:Int)<(n:Int)+1)=true:=by simp;omega
 go_enter Try.func33,Try.ntmps33
 go_wp2
 go_returns
 exact ⟨rfl,by go_grown⟩
theorem rbound_neg (n:Nat) (d:Diff) (hb:Diffs w av ds) (hd:ds[n]? = some d) (hl:n+1≤9223372036854775808) (hC : -9223372036854775807≤d.c) :
  Calls Try.prog 33 #[.agg #[i,j,av,cv], .int .i64 (-((n:Int)+1))] w fun e w'=>e = .returned (boundVal (some d.opp))∧Below w.heap.size w w':=by
 obtain ⟨A,c,rfl,h1,h2,h3,hr⟩:=hb
 unfold maxLen at h2
 have hlt:n<ds.length:=(zG.1 hd).1
 obtain ⟨b1,o1,rfl,hb1,hc1,hc2,hc3⟩:=hr.diff hd
 obtain ⟨x,y,z⟩:=d
 obtain ⟨k1,k2⟩:=(h3 _ (List.mem_of_getElem? hd)).2.2
 simp only at hC k1 k2
 clear hd h3 hr
 have hz:((-((n:Int)+1)) == 0)=false:=by simp;omega
 have hz2:decide ((ds.length:Int) < -((n:Int)+1))=false:=by simp;omega
 have hz3:decide (-((n:Int)+1) < -(ds.length:Int))=false:=by simp;omega
 go_enter Try.func33,Try.ntmps33
 go_wp2
 go_returns
 exact ⟨rfl,by go_grown⟩
theorem oN (n:Nat) (hb:Diffs w av ds) (hge:ds.length≤n) (hl:n+1≤9223372036854775808) :
  Calls Try.prog 33 #[.agg #[i,j,av,cv], .int .i64 (-((n:Int)+1))] w fun e w'=>e = .returned (boundVal none)∧Below w.heap.size w w':=by
 obtain ⟨A,c,rfl,h1,h2,h3,hr⟩:=hb
 unfold maxLen at h2
 clear h3 hr
 have hz:((-((n:Int)+1)) == 0)=false:=by simp;omega
 have hz2:decide ((ds.length:Int) < -((n:Int)+1))=false:=by simp;omega
 have hz3:decide (-((n:Int)+1) < -(ds.length:Int))=true:=by simp;omega
 go_enter Try.func33,Try.ntmps33
 go_wp2
 go_returns
 exact ⟨rfl,by go_grown⟩
theorem rbound_any (lit:Int) (hb:Diffs w av ds) (hC:∀d∈ds, -9223372036854775807≤d.c) (hl:I64 lit) :
  Calls Try.prog 33 #[.agg #[i,j,av,cv], .int .i64 lit] w fun e w'=>e = .returned (boundVal (bound ds lit))∧Below w.heap.size w w':=by
 obtain ⟨hl1,hl2⟩:=hl
 rcases cE lit with rfl|⟨n,rfl⟩|⟨n,rfl⟩
 ·exact pP i j av cv ds w hb
 ·rw [aV]
  rcases xS n ds.length with h|h
  ·rw [List.getElem?_eq_getElem h];exact rbound_pos i j av cv ds w n _ hb (List.getElem?_eq_getElem h) (by omega)
  ·rw [List.getElem?_eq_none h];exact pW i j av cv ds w n hb h (by omega)
 ·rw [aX]
  rcases xS n ds.length with h|h
  ·rw [List.getElem?_eq_getElem h];exact rbound_neg i j av cv ds w n _ hb (List.getElem?_eq_getElem h) (by omega) (hC _ (yY h))
  ·rw [List.getElem?_eq_none h];exact oN i j av cv ds w n hb h (by omega)
end
set_option maxRecDepth 100000 in
set_option maxHeartbeats 2000000 in
theorem rcycle_any (lv cv:Value) (ds:List Diff) (w:World) (hl:Diffs w lv ds) (hc:Ints w cv (idx ds.length)) (hM:∀d∈ds, -1048577≤d.c∧d.c≤1048577) (hn:ds.length≤1000000) :
  Calls Try.prog 91 #[lv,cv] w (CycRet w (cycB ds)):=by
 obtain ⟨A,c,rfl,h1,h2,h3,hr⟩:=hl
 obtain ⟨A2,c2,rfl,g1,g2,g3,hr2⟩:=hc
 rw [oH] at g1 ⊢
 unfold maxLen at h2 g2
 have HR:=Lib.hid hr
 have HR2:=Lib.hid hr2
 have HM:=Lib.hid hM
 clear h3 hr g3 hr2 hM
 have HC2:Hid (∀k,k<ds.length→∃b2 o2,A2=some ⟨b2,o2,none⟩∧w.cell? ⟨b2,o2+k,none⟩=some (.int .i64 (k:Int))):=by
  intro k hk
  obtain ⟨b2,o2,hA2,hb2,hc2⟩:=HR2.out (by simp [oH];omega)
  exact ⟨b2,o2,hA2,hc2 k _ (by rw [List.getElem?_map,idx_at hk];rfl)⟩
 go_enter Try.func91,Try.ntmps91
 go_wp2_with fail
 go_loopw [5,11] (fun s i wr=>∃(k n:Nat),k≤ds.length∧i = .int .i64 k∧s = .int .i64 (csum (ds.take k))∧eK ds k∧wr=w.drewN n) (fun _ i _=>ds.length-(intOf i).toNat)
 case atStart=>exact ⟨0,0,by omega,rfl,rfl,fun i a b h=>by omega,rfl⟩
 case round =>
  obtain ⟨j,n,hj,rfl,rfl,hlink,rfl⟩:=hrel
  have HLK:=Lib.hid hlink
  have hsb:=csum_bound (M:=1048577) (ds:=ds.take j) fun d hd=>HM.out d (zO hd)
  have hlen:(ds.take j).length≤j:=kW _ _
  have hs1 : -1048577000000≤csum (ds.take j)∧csum (ds.take j)≤1048577000000:=by omega
  obtain ⟨hs1,hs2⟩:=hs1
  clear hlink hsb hlen
  by_cases hjt:j<ds.length
  ·obtain ⟨a,ha⟩:∃x,ds[j]? = some x:=⟨_,List.getElem?_eq_getElem hjt⟩
   have hrl:(j+1) % ds.length<ds.length:=Nat.mod_lt _ (by omega)
   obtain ⟨b,hb⟩:∃x,ds[(j+1) % ds.length]? = some x:=⟨_,List.getElem?_eq_getElem hrl⟩
   obtain ⟨b1,o1,rfl,hb1,hx1,hy1,hz1⟩:=HR.out.diff ha
   obtain ⟨b1',o1',hA',hb1',hx2,hy2,hz2⟩:=HR.out.diff hb
   injection hA' with hA'
   injection hA' with e1 e2
   subst e1 e2
   obtain ⟨b2,o2,rfl,hcell⟩:=HC2.out j hjt
   obtain ⟨b2',o2',hA2',hcell2⟩:=HC2.out _ hrl
   injection hA2' with hA2'
   injection hA2' with e1 e2
   subst e1 e2
   have hca1:=(HM.out a (List.mem_of_getElem? ha)).1
   have hca2:=(HM.out a (List.mem_of_getElem? ha)).2
   have HLS:Hid (a.y=b.x→eK ds (j+1)):=fun e=>sA HLK.out ha hb e
   have HLN:Hid (a.y≠b.x→cycB ds=false):=fun e=>cycB_no ha hb e
   have HCS:=Lib.hid (csum_take ha)
   generalize hr:(j+1) % ds.length=r at *
   have y1:IntKind.i64.wrap ((j:Int)+1)=(j:Int)+1:=yG _ (by omega)
   have y2:((j:Int)+1).tmod (ds.length:Int)=(r:Int):=by rw [yZ (by omega),←hr];simp
   have y2b:((j:Int)+1) % (ds.length:Int)=(r:Int):=by rw [←hr];simp
   have y3:IntKind.i64.wrap (r:Int)=(r:Int):=yG _ (by omega)
   have y4:¬ds.length=0:=by omega
   have d1:decide ((r:Int)<0)=false:=by simp
   have d2:decide ((ds.length:Int)≤(r:Int))=false:=by simp;omega
   clear ha hb hr hb1' hx1 hz2 hy2
   by_cases e:a.y=b.x
   ·have de:(a.y != b.x)=false:=by simp [e]
    have HN:=Lib.hid (HLS.out e)
    have HE:=Lib.hid e
    clear e
    go_wp2_with fail
    go_quiet (fail)
    clear y1 y2 y2b y3 y4
    go_wp2_with fail
    go_roundw
    case rel=>exact ⟨j+1,_,by omega,by go_num,by rw [HCS.out],HN.out,rfl⟩
    case measure=>simp [intOf];omega
   ·have de:(a.y != b.x)=true:=by simp [e]
    have HE:=Lib.hid (HLN.out e)
    clear e
    go_wp2_with fail
    go_quiet (fail)
    clear y1 y2 y2b y3 y4
    go_wp2_with fail
    go_ret
    exact ⟨by rw [HE.out];rfl,iE (iE (zN _ _) _) _⟩
  ·by_cases h0:ds.length=0
   ·have HC:Hid (cycB ds=false):=by
     refine Lib.hid ?_
     unfold cycB;simp only [decide_eq_false_iff_not];rintro ⟨h,_⟩;omega
    have d0:decide ((0:Int)<(ds.length:Int))=false:=by simp;exact qS h0
    have d0':decide (0<ds.length)=false:=by simp;exact qS h0
    clear h0
    go_wp2_with fail
    go_ret
    exact ⟨by rw [HC.out];rfl,iE (zN _ _) _⟩
   ·have HE:=Lib.hid (cycB_yes (by omega) HLK.out (by omega))
    have d0:decide ((0:Int)<(ds.length:Int))=true:=by simp;omega
    have d0':decide (0<ds.length)=true:=by simp;omega
    go_wp2_with fail
    go_ret
    exact ⟨by rw [HE.out];rfl,iE (zN _ _) _⟩
theorem bU (x:Int) (w:World) (hx:I64 x) (h0:x ≠ -9223372036854775808) :
  Calls Try.prog 48 #[.int .i64 x] w fun e w'=>e = .returned (.int .i64 (x.natAbs:Nat))∧w=w':=by
 by_cases h:0≤x
 ·have e:((x.natAbs:Nat):Int)=x:=by omega
  rw [e];exact sZ x w h
 ·have e:((x.natAbs:Nat):Int) = -x:=by omega
  rw [e];exact abs_neg x w (by omega) (by have:=hx.1;omega)
theorem insAbs_end {x:Int} {l:List Int} (h:∀y∈l,y.natAbs<x.natAbs):gM x l=some (l++[x]):=by
 induction l with
 | nil=>rfl
 | cons y r ih =>
  rw [gM,if_pos (h y (by simp)),ih fun z hz=>h z (by simp [hz])];rfl
theorem insAbs_at {x:Int} {l:List Int} {j:Nat} {y:Int} (h:∀z∈l.take j,z.natAbs<x.natAbs) (hy:l[j]? = some y) (hn:¬y.natAbs<x.natAbs) :
  gM x l=if y=x then some l else if y = -x then none else some (l.take j++x::l.drop j):=by
 induction l generalizing j with
 | nil=>simp at hy
 | cons a r ih =>
  cases j with
  | zero =>
   simp at hy
   subst hy
   rw [gM,if_neg hn]
   simp
  | succ j =>
   rw [gM,if_pos (h a (by simp)),ih (j:=j) (fun z hz=>h z (by simp [hz])) (by simpa using hy)]
   split
   ·rfl
   ·split<;>simp
theorem iX {xs l:List Int} {k:Nat} {x:Int} (hk:xs[k]? = some x) (h:wL (xs.take k)=some l) (hb:wV x=false):wL (xs.take (k+1))=gM x l:=by
 rw [wN hk,norm_snoc,h]
 simp [dU,hb]
theorem lH {xs:List Int} {k:Nat} (h:wL (xs.take k)=none):wL xs=none:=by
 have hs:=gF (xs.take k)
 rw [h] at hs
 refine dX ?_
 rcases hs with ⟨x,hx,hb⟩|⟨x,hx,ho,h0⟩
 ·exact .inl ⟨x,zO hx,hb⟩
 ·exact .inr ⟨x,zO hx,zO ho,h0⟩
theorem wrap_min:((-9223372036854775808:Int) == wrap64 9223372036854775808)=true:=by kernel_rfl
set_option maxRecDepth 100000 in
set_option maxHeartbeats 2000000 in
theorem aC (v:Value) (xs:List Int) (w:World) (hv:Ints w v xs) (hlen:xs.length≤1000000) :
  Calls Try.prog 71 #[v] w (NormRet w xs):=by
 obtain ⟨A,c,rfl,hl,hm,hx,hr⟩:=hv
 obtain ⟨i0,hi,hz0,hz1,hz2⟩:=qC gB
 have HX:=Lib.hid hx
 have HR:=Lib.hid hr
 have HLEN:=Lib.hid hlen
 have hlenI:(xs.length:Int)≤1000000:=by omega
 clear hx hr hlen hm
 go_enter Try.func71,Try.ntmps71
 go_wp2_with fail
 go_loopw [4,11] (fun r i wr=>∃(k:Nat) (l:List Int),k≤xs.length∧i = .int .i64 k∧wL (xs.take k)=some l∧wr.ownsRow w.heap.size 3 1 r l.length (l.map (Value.int .i64))∧Below w.heap.size w wr) (fun _ i _=>xs.length-(intOf i).toNat)
 case atStart=>exact ⟨0,[],by omega,rfl,rfl,qG _ _ _ _,zN _ _⟩
 case round =>
  obtain ⟨k,l,hk,rfl,hnorm,hown,hbw⟩:=hrel
  have HN:=Lib.hid hnorm
  have HOWN:=Lib.hid hown
  have HBW:=Lib.hid hbw
  clear hnorm hown hbw
  obtain ⟨A1,cap1,rfl⟩:=bH HOWN.out
  by_cases hlt:k<xs.length
  ·obtain ⟨x,hxk⟩:∃x,xs[k]? = some x:=⟨_,List.getElem?_eq_getElem hlt⟩
   obtain ⟨b1,o1,rfl,hb1,hc1⟩:=(HR.out.keep HBW.out).int hxk
   have HXK:=Lib.hid hxk
   clear hxk
   by_cases hb0:wV x=true
   ·have HNN:=Lib.hid (iQ HXK.out hb0)
    have hor:x=0∨x = -9223372036854775808:=by simpa [wV] using hb0
    clear hb0
    rcases hor with rfl|rfl
    ·go_wp2_with fail
     go_ret2
     exact dD HNN.out HBW.out
    ·have hmin:=wrap_min
     go_wp2_with fail
     go_ret2
     exact dD HNN.out HBW.out
   ·have hb1':wV x=false:=by simpa using hb0
    have hxI:=HX.out x (List.mem_of_getElem? HXK.out)
    have hxm:x ≠ -9223372036854775808:=by intro h;subst h;simp [wV] at hb1'
    have hx0:=dT hb1'
    obtain ⟨hx1,hx2⟩:=hxI
    have hx3 : -9223372036854775807≤x:=by omega
    have e1:(x == 0)=false:=by simpa using hx0
    have e2:(x == -x)=false:=by simp;omega
    have HS:=Lib.hid (iX HXK.out HN.out hb1')
    have HXM:=Lib.hid hxm
    have HX0:=Lib.hid hx0
    clear hb0 hb1' hx1 hxm hx0
    have hll:l.length≤k:=by
     have h1:=rW HN.out
     have h2:=kW k xs
     omega
    have HLI:=Lib.hid (sQ HN.out (P:=fun z=>I64 z) fun z hz=>HX.out z (zO hz))
    have HLB:=Lib.hid (by have hs:=gF (xs.take k);rw [HN.out] at hs;exact fun z hz=>hs.2.2 z ((hs.2.1 z).1 hz):∀z∈l,wV z=false)
    have HRL:=Lib.hid (Own.ints (base:=w.heap.size) ⟨HOWN.out,HLI.out⟩)
    go_wp2_with fail
    go_loop [7] (fun i=>∃j:Nat,j≤l.length∧i = .int .i64 j∧∀z∈l.take j,z.natAbs<x.natAbs) (fun i=>l.length-(intOf i).toNat)
    case atStart=>exact ⟨0,by omega,rfl,by simp⟩
    case round =>
     obtain ⟨j,hj,rfl,hsm⟩:=hrel
     have HSM:=Lib.hid hsm
     clear hsm
     by_cases hjl:j<l.length
     ·obtain ⟨y,hy⟩:∃y,l[j]? = some y:=⟨_,List.getElem?_eq_getElem hjl⟩
      obtain ⟨A3,c3,hv3,_,_,_,hr3⟩:=HRL.out
      injection hv3 with hv4 _ hv5
      subst hv4 hv5
      obtain ⟨b2,o2,rfl,hb2,hc2⟩:=hr3.int hy
      have HY:=Lib.hid hy
      have HYI:=Lib.hid (HLI.out y (List.mem_of_getElem? hy))
      have HYB:Hid (y ≠ -9223372036854775808):=by intro h;subst h;have:=HLB.out _ (List.mem_of_getElem? hy);simp [wV] at this
      clear hy hr3
      by_cases hlt3:y.natAbs<x.natAbs
      ·have hdec:decide (((y.natAbs:Nat):Int)<((x.natAbs:Nat):Int))=true:=by simp;omega
       go_wp2_with fail
       refine (bU y _ HYI.out HYB.out).mono ?_
       rintro e w' ⟨rfl,rfl⟩
       go_wp2_with fail
       refine (bU x _ ⟨by omega,by omega⟩ HXM.out).mono ?_
       rintro e w' ⟨rfl,rfl⟩
       go_wp2_with fail
       go_round
       case rel =>
        refine ⟨j+1,by omega,by go_num,?_⟩
        rw [wN HY.out]
        intro z hz
        rcases zL.1 hz with hz|hz
        ·exact HSM.out z hz
        ·simp at hz;subst hz;exact hlt3
       case measure=>simp [intOf];omega
      ·have hdec:decide (((y.natAbs:Nat):Int)<((x.natAbs:Nat):Int))=false:=by simp;omega
       have HINS:=Lib.hid (insAbs_at HSM.out HY.out hlt3)
       by_cases hyx:y=x
       ·have hyb:(y == x)=true:=by simp [hyx]
        have HR2:Hid (wL (xs.take (k+1))=some l):=by
         have h:=HINS.out
         rw [if_pos hyx] at h
         exact HS.out.trans h
        clear hyx
        go_wp2_with fail
        refine (bU y _ HYI.out HYB.out).mono ?_
        rintro e w' ⟨rfl,rfl⟩
        go_wp2_with fail
        refine (bU x _ ⟨by omega,by omega⟩ HXM.out).mono ?_
        rintro e w' ⟨rfl,rfl⟩
        go_wp2_with fail
        refine ⟨⟨k+1,l,by omega,by go_num,HR2.out,HOWN.out,HBW.out⟩,by simp [intOf];omega⟩
       ·have hyb:(y == x)=false:=by simp [hyx]
        by_cases hyn:y = -x
        ·have hyc:(y == -x)=true:=by simp [hyn]
         have HR2:Hid (wL xs=none):=by
          have h:=HINS.out
          rw [if_neg hyx,if_pos hyn] at h
          exact lH (HS.out.trans h)
         clear hyx hyn
         go_wp2_with fail
         refine (bU y _ HYI.out HYB.out).mono ?_
         rintro e w' ⟨rfl,rfl⟩
         go_wp2_with fail
         refine (bU x _ ⟨by omega,by omega⟩ HXM.out).mono ?_
         rintro e w' ⟨rfl,rfl⟩
         go_wp2_with fail
         go_ret2
         exact dD HR2.out HBW.out
        ·have hyc:(y == -x)=false:=by simp [hyn]
         have HR2:Hid (wL (xs.take (k+1))=some (l.take j++x::l.drop j)):=by
          have h:=HINS.out
          rw [if_neg hyx,if_neg hyn] at h
          exact HS.out.trans h
         clear hyx hyn
         go_wp2_with fail
         refine (bU y _ HYI.out HYB.out).mono ?_
         rintro e w' ⟨rfl,rfl⟩
         go_wp2_with fail
         refine (bU x _ ⟨by omega,by omega⟩ HXM.out).mono ?_
         rintro e w' ⟨rfl,rfl⟩
         go_wp2_with (first
          | (at_builtin;refine cH _ rfl (.tmp 65) (.tmp 68) 33 rfl wr.heap.size 3 i0 (.int .i64 0) 1 8 Try.underlying33 hi hz0 hz1 hz2 rfl (by decide) _ 1 [.int .i64 x] rfl ?c1 _ (l.length-j) _ ((l.drop j).map (Value.int .i64)) rfl ?c2 ?c3 ?c4 ?c5 ?c6 ?c7 ?_))
         case c1=>exact World.ownsRow_lit wr #[.int .i64 x] 1 (Nat.le_refl _) (by simp [maxLen]) rfl
         case c2=>simp
         case c3 =>
          intro _
          refine ⟨b2,o2+j,rfl,by simp;omega,fun q u hu => ?_⟩
          rw [List.map_drop,yJ] at hu
          obtain ⟨_,_,hv3,_,_,_,hr3⟩:=HRL.out
          injection hv3 with hv4
          obtain ⟨b3,o3,hA3,hb3,hc3⟩:=hr3.at_ hu
          rw [←hv4] at hA3
          injection hA3 with hA3
          injection hA3 with z1 z2
          subst z1 z2
          rw [World.cell?_alloc_lt _ _ _ hb3,show o2+j+q=o2+(j+q) by omega]
          exact hc3
         case c4=>intro u hu;obtain ⟨_,_,rfl⟩:=List.mem_map.1 hu;rfl
         case c5=>unfold maxLen;omega
         case c6=>omega
         case c7=>simp
         intro v1 w1 hown1 hg1 hat1
         obtain ⟨g1,capg,rfl,hg1b,hg1l,_,_⟩:=iY hown1 (by omega)
         have hb1w:Below wr.heap.size wr w1:=by
          refine ((zN _ _).alloc (Nat.le_refl _) _).grown hg1 (by simp) (fun q hq => ?_)
          simp [Value.ownBlock] at hq
          omega
         have HB1W:=Lib.hid hb1w
         have HO1:=Lib.hid hown1
         clear hown1 hg1 hat1 hb1w
         go_wp2_with (first
          | (at_builtin;refine wpList_append_grows _ rfl (.tmp 73) (.tmp 74) 33 rfl 3 i0 (.int .i64 0) 1 8 Try.underlying33 hi hz0 hz1 hz2 rfl (by decide) _ j j ((l.take j).map (Value.int .i64)) rfl ?d1 ?d2 ?d3 ⟨g1,0,none⟩ (1+(l.length-j)) capg ([.int .i64 x]++(l.drop j).map (Value.int .i64)) rfl ?d4 ?d5 ?d6 ?d7 ?d8 ?d9 ?_))
         case d1=>intro h;cases h
         case d2=>simp;omega
         case d3 =>
          intro ad had q u hu
          injection had with had
          subst had
          have hu2:(l.map (Value.int .i64))[q]? = some u:=by
           rw [List.map_take,qX] at hu
           split at hu
           ·exact hu
           ·cases hu
          obtain ⟨_,_,hv3,_,_,_,hr3⟩:=HRL.out
          injection hv3 with hv4
          have hr4:=hr3.keep HB1W.out
          exact hr4.adds w1 hv4.symm q u hu2
         case d4=>simp;omega
         case d5 =>
          intro q u hu
          rw [List.map_drop] at hu
          exact HO1.out.cells (g:=g1) rfl q u hu
         case d6 =>
          intro u hu
          rcases zL.1 hu with hu|hu
          ·simp at hu;subst hu;rfl
          ·obtain ⟨_,_,rfl⟩:=List.mem_map.1 hu;rfl
         case d7=>omega
         case d8=>unfold maxLen;omega
         case d9=>omega
         intro v2 w2 hown2 hg2
         have HO2:Hid (w2.ownsRow w.heap.size 3 1 v2 (l.take j++x::l.drop j).length ((l.take j++x::l.drop j).map (Value.int .i64))):=by
          have hle:w.heap.size≤w1.heap.size:=qB HBW.out.size HB1W.out.size
          have h:=aQ hown2 hle
          have hlen2:(l.take j++x::l.drop j).length=j+(1+(l.length-j)):=by simp;omega
          rw [hlen2]
          have h2:(l.take j++x::l.drop j).map (Value.int .i64)=(l.map (Value.int .i64)).take j ++ .int .i64 x::(l.map (Value.int .i64)).drop j:=by simp
          rw [h2]
          exact h
         have HB2:Hid (Below w.heap.size w w2):=by
          refine (HBW.out.trans (HB1W.out.mono HBW.out.size)).grown hg2 (qB HBW.out.size HB1W.out.size) (fun q hq=>by cases hq)
         clear hown2 hg2
         go_wp2_with fail
         refine ⟨⟨k+1,_,by omega,by go_num,HR2.out,HO2.out,HB2.out⟩,by simp [intOf];omega⟩
     ·obtain rfl:j=l.length:=by omega
      have HINS:=Lib.hid (insAbs_end (x:=x) (l:=l) (by have h:=HSM.out;rwa [yA] at h))
      have HR2:Hid (wL (xs.take (k+1))=some (l++[x])):=HS.out.trans HINS.out
      have hcap:l.length≤cap1∧(A1=none→l.length=0):=by
       rcases HOWN.out.2 with ⟨h1,h2⟩|⟨g,cap,cur,h1,_,_,h4,_⟩
       ·injection h1 with h1 _ h3
        subst h1 h3
        exact ⟨by omega,fun _=>h2⟩
       ·injection h1 with h1 _ h3
        subst h1 h3
        exact ⟨h4,fun h=>by cases h⟩
      have HNONE:=Lib.hid hcap.2
      have hcap1:=hcap.1
      clear hcap
      by_cases hce:cap1=l.length
      all_goals
       go_wp2_with (first
        | (at_builtin;refine cH _ rfl (.tmp 65) (.tmp 68) 33 rfl wr.heap.size 3 i0 (.int .i64 0) 1 8 Try.underlying33 hi hz0 hz1 hz2 rfl (by decide) _ 1 [.int .i64 x] rfl ?c1 _ 0 _ [] rfl ?c2 ?c3 ?c4 ?c5 ?c6 ?c7 ?_))
       case c1=>exact World.ownsRow_lit wr #[.int .i64 x] 1 (Nat.le_refl _) (by simp [maxLen]) rfl
       case c3=>exact Rd.nil _ _
       case c5=>unfold maxLen;omega
       intro v1 w1 hown1 hg1 hat1
       obtain ⟨g1,capg,rfl,hg1b,hg1l,_,_⟩:=iY hown1 (by omega)
       have hb1w:Below wr.heap.size wr w1:=by
        refine ((zN _ _).alloc (Nat.le_refl _) _).grown hg1 (by simp) (fun q hq => ?_)
        simp [Value.ownBlock] at hq
        omega
       have HB1W:=Lib.hid hb1w
       have HO1:=Lib.hid hown1
       clear hown1 hg1 hat1 hb1w
       go_wp2_with (first
        | (at_builtin;refine wpList_append_grows _ rfl (.tmp 73) (.tmp 74) 33 rfl 3 i0 (.int .i64 0) 1 8 Try.underlying33 hi hz0 hz1 hz2 rfl (by decide) A1 l.length l.length (l.map (Value.int .i64)) rfl ?d1 ?d2 ?d3 ⟨g1,0,none⟩ 1 capg [.int .i64 x] rfl ?d4 ?d5 ?d6 ?d7 ?d8 ?d9 ?_))
       case d1=>exact fun h=>⟨HNONE.out h,HNONE.out h⟩
       case d2=>simp
       case d3 =>
        intro ad had q u hu
        obtain ⟨_,_,hv3,_,_,_,hr3⟩:=HRL.out
        injection hv3 with hv4
        have hr4:=hr3.keep HB1W.out
        exact hr4.adds w1 (hv4.symm.trans had) q u hu
       case d4=>simp
       case d5=>exact fun q u hu=>HO1.out.cells (g:=g1) rfl q u hu
       case d6=>intro u hu;simp at hu;subst hu;rfl
       case d7=>omega
       case d8=>unfold maxLen;omega
       case d9=>omega
       intro v2 w2 hown2 hg2
       have HO2:Hid (w2.ownsRow w.heap.size 3 1 v2 (l++[x]).length ((l++[x]).map (Value.int .i64))):=by
        have hle:w.heap.size≤w1.heap.size:=qB HBW.out.size HB1W.out.size
        have h:=aQ hown2 hle
        have hlen2:(l++[x]).length=l.length+1:=by simp
        rw [hlen2,List.map_append]
        exact h
       have HB2:Hid (Below w.heap.size w w2):=by
        refine (HBW.out.trans (HB1W.out.mono HBW.out.size)).grown hg2 (qB HBW.out.size HB1W.out.size) (fun q hq=>by cases hq)
       clear hown2 hg2
       go_wp2_with fail
       refine ⟨⟨k+1,_,by omega,by go_num,HR2.out,HO2.out,HB2.out⟩,by simp [intOf];omega⟩
  ·have HT:Hid (wL xs=some l):=by have h:=HN.out;rwa [zU (by omega)] at h
   go_wp2_with fail
   go_ret2
   refine ⟨_,by rw [HT.out];rfl,?_,HBW.out⟩
   rw [HT.out]
   exact ⟨HOWN.out,sQ HT.out HX.out⟩
end Go.Proofs.Yticieifacalocaa
