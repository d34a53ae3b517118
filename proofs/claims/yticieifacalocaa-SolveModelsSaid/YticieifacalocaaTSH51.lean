/- SolTot Right CutM Same -/
import Derived.Test.YticieifacalocaaTSH50
namespace Go.Proofs.Yticieifacalocaa
open Go.RowKit
def SlvGood (f:Form) (B:Nat):List Int ⊕ List Stp→Prop
 | .inl val=>ModelOk f B val
 | .inr l=>RefOk f l
section
variable {f:Form} {B N:Nat} {o:List Int ⊕ List Stp} {val:List Int} {l:List Stp} {bs:List Bool} {xs:List Int}
theorem RefOk.oks (h:RefOk f l):∀x∈l,x.ok∧∀z∈x.lits,I64 z:=fun x hx=>by
 obtain ⟨a1,a2,a3,a4, -,a6,a7,a8,a9,b1,b2,b3⟩:=h.st x hx
 have hL:LIM=1099511627776:=rfl
 refine ⟨⟨⟨by omega,by omega⟩,⟨by omega,by omega⟩,⟨by omega,by omega⟩,⟨by omega,by omega⟩,⟨by omega,by omega⟩⟩,fun z hz => ?_⟩
 have:=a6 z hz
 unfold vr at this
 exact ⟨by omega,by omega⟩
theorem SlvGood.ok (h:SlvGood f B o):SlvOk f B o:=by
 cases o with
 | inl val=>exact h
 | inr l=>exact RefOk.oks h
theorem nK (hv:validF f=0) (hb:f.bools=B) (hn:f.ints=N):SolQ f B N:=by
 obtain ⟨h1,h2,h3,h4,h5,h6,h7,h8⟩:=dG hv
 refine ⟨hb,hn,by omega,by omega,by omega,fun d hd => ?_,fun c hc x hx => ?_,h6⟩
 ·obtain ⟨x,y,z⟩:=d
  have:=gQ.1 (h7 _ hd)
  rw [hn] at this
  exact this
 ·have:=dH.1 (h8 c hc x hx)
  rw [hb] at this
  refine wD.2 ⟨this.1,?_⟩
  unfold vr
  omega
theorem cV {fv:Value} {w:World} (hf:IsForm w fv f) (hq:SolQ f B N) (hB:B≤24) (hv:validF f=0) (hgx:∀xs∈f.clauses,xs.length≤1000000) :
  ∃o,SlvGood f B o∧Calls Try.prog 17 #[fv] w (lE w f N B o):=by
 obtain ⟨fuel,⟨val,h1,h2⟩|⟨l,h1,h2⟩⟩:=solveF_ok hq hB
 ·exact ⟨.inl val,h2,iZ hf hq hv hgx h1 h2⟩
 ·exact ⟨.inr l,h2,iZ hf hq hv hgx h1 (SlvGood.ok (o := .inr l) (B:=B) h2)⟩
theorem RefOk.no (h:RefOk f l) (hf:pA f.atoms bs xs) (hc:∀c∈f.clauses,c.any (holds bs)=true):False:=by
 obtain ⟨cs,h1,h2,h3⟩:=h.r
 have hlen:=runS_lenT h1
 have:=sF hf hc h1 (by simp) (cs.getD (l.length-1) []) (by
  rw [List.getD_eq_getElem?_getD,List.getElem?_eq_getElem (by simp at hlen;omega)]
  exact xG _)
 rw [h3] at this
 simp at this
theorem holds_tv {x:Int} (hv:∀i,i<B→val.getD i 0=1∨val.getD i 0 = -1) (hl:val.length=B) (hx:litB B x=true) (h:tv val x=1):holds (val.map fun y=>decide (0<y)) x=true:=by
 obtain ⟨h0,h1⟩:=wD.1 hx
 have h2:=hv (vr x) h1
 have h3:(val.map fun y=>decide (0<y))[vr x]? = some (decide (0<val.getD (vr x) 0)):=by
  rw [List.getElem?_map,List.getD_eq_getElem?_getD,List.getElem?_eq_getElem (by omega)]
  rfl
 unfold tv at h
 unfold holds
 by_cases hp:0<x
 ·rw [if_pos hp]
  rw [if_neg (by omega)] at h
  have e:(x-1).toNat=vr x:=by unfold vr;omega
  rw [e,List.getD_eq_getElem?_getD,h3,h]
  rfl
 ·rw [if_neg hp,if_pos (by omega)]
  rw [if_pos (by omega)] at h
  have e:(-x-1).toNat=vr x:=by unfold vr;omega
  rw [e,h3]
  have:val.getD (vr x) 0 = -1:=by omega
  rw [this]
  rfl
theorem ModelOk.clauses (h:ModelOk f B val):∀c∈f.clauses,c.any (holds (val.map fun y=>decide (0<y)))=true:=fun c hc=>by
 obtain ⟨x,h1,h2,h3⟩:=h.cl c hc
 exact kC.2 ⟨x,h1,holds_tv h.v3 h.len h2 h3⟩
theorem ModelOk.fits (h:ModelOk f B val) (hq:SolQ f B N) (hx:∀v,v<B→∀d,bound f.atoms (litV val v)=some d→gi xs d.x≤gi xs d.y+d.c):pA f.atoms (val.map fun y=>decide (0<y)) xs:=by
 intro i d hd
 have hi:i<B:=by have:=(zG.1 hd).1;have:=hq.al;omega
 have h3:(val.map fun y=>decide (0<y))[i]? = some (decide (0<val.getD i 0)):=by
  rw [List.getElem?_map,List.getD_eq_getElem?_getD,List.getElem?_eq_getElem (by rw [h.len];exact hi)]
  rfl
 rw [h3]
 congr 1
 have hb:=hx i hi
 unfold litV at hb
 rcases h.v3 i hi with h1|h1
 ·rw [h1,if_pos (by omega),aI,hd] at hb
  have:=hb d rfl
  rw [h1]
  symm
  simp
  omega
 ·rw [h1,if_neg (by omega),aJ,hd] at hb
  have:=hb d.opp rfl
  unfold Diff.opp at this
  simp only at this
  rw [h1]
  symm
  simp
  omega
theorem SlvGood.sat (h:SlvGood f B o) (hf:pA f.atoms bs xs) (hc:∀c∈f.clauses,c.any (holds bs)=true):∃val,o = .inl val∧ModelOk f B val:=by
 cases o with
 | inl val=>exact ⟨val,rfl,h⟩
 | inr l=>exact absurd (RefOk.no h hf hc) id
end
set_option maxRecDepth 100000 in
set_option maxHeartbeats 4000000 in
theorem right_sat {f:Form} {fv bv iv:Value} {bs:List Bool} {xs:List Int} {w:World} (hf:IsForm w fv f) (hB:Bools w bv bs) (hX:Ints w iv xs) (hv:validF f=0) (h40:∀x∈xs,Forty x) (hs:Sat f xs bs) :
  Calls Try.prog 18 #[fv, .agg #[bv,iv], .slice none 0 0, .bool true] w fun e w'=>e = .returned (.bool true)∧Below w.heap.size w w':=by
 have HF:=Lib.hid hf
 have HBS:=Lib.hid hB
 have HXS:=Lib.hid hX
 have HV:=Lib.hid hv
 have H40:=Lib.hid h40
 have HS:=Lib.hid hs
 obtain ⟨av,cv,rfl, -, -, -, -⟩:=hf
 clear hB hX hv h40 hs
 have b1:=Blk.new w 29 #[.int .i64 f.ints, .int .i64 f.bools,av,cv]
 have b2:=Blk.new (w.alloc (.cells #[.int .i64 f.ints, .int .i64 f.bools,av,cv] 29)) 35 #[bv,iv]
 simp only [xN] at b2
 have HB1:=Lib.hid (b1.alloc (.cells #[bv,iv] 35))
 have HB2:=Lib.hid b2
 have HB:Hid (Below w.heap.size w ((w.alloc (.cells #[.int .i64 f.ints, .int .i64 f.bools,av,cv] 29)).alloc (.cells #[bv,iv] 35))):=Lib.hid (((zR _ _).alloc (Nat.le_refl _) _).alloc (by simp) _)
 clear b1 b2
 go_enter Try.func18,Try.ntmps18
 go_upto_region 1 with fail
 generalize ((w.alloc (.cells #[.int .i64 f.ints, .int .i64 f.bools,av,cv] 29)).alloc (.cells #[bv,iv] 35))=W at *
 have q0:=HB1.out.cell 0
 have q1:=HB1.out.cell 1
 have q2:=HB1.out.cell 2
 have q3:=HB1.out.cell 3
 have p0:=HB2.out.cell 0
 have p1:=HB2.out.cell 1
 simp only [zA,zB,zC] at q0 q1 q2 q3 p0 p1
 go_wp2_with fail
 refine (rsat_any _ _ _ _ _ _ f (HF.out.keep HB.out) (HBS.out.keep HB.out) (HXS.out.keep HB.out) HV.out H40.out).mono ?_
 rintro e w2 ⟨⟨b,rfl,hb⟩,hbw⟩
 obtain rfl:=hb.2 HS.out
 have HB3:=Lib.hid (HB.out.trans (hbw.mono HB.out.size))
 clear hb hbw q0 q1 q2 q3 p0 p1
 go_wp2_with fail
 go_ret
 exact ⟨rfl,HB3.out⟩
set_option maxRecDepth 100000 in
set_option maxHeartbeats 4000000 in
theorem right_ref {f:Form} {fv lv:Value} {l:List Stp} {w:World} (hf:IsForm w fv f) (hl:Stps w lv l) (hq:oF f l) (hc:chk (wX f [] l) l.length=(0,0)) :
  Calls Try.prog 18 #[fv, .agg #[.slice none 0 0, .slice none 0 0],lv, .bool false] w fun e w'=>e = .returned (.bool true)∧Below w.heap.size w w':=by
 have HF:=Lib.hid hf
 have HL:=Lib.hid hl
 have HQ:=Lib.hid hq
 have HC:=Lib.hid hc
 obtain ⟨av,cv,rfl, -, -, -, -⟩:=hf
 clear hl hq hc
 have b1:=Blk.new w 29 #[.int .i64 f.ints, .int .i64 f.bools,av,cv]
 have b2:=Blk.new (w.alloc (.cells #[.int .i64 f.ints, .int .i64 f.bools,av,cv] 29)) 35 #[.slice none 0 0, .slice none 0 0]
 simp only [xN] at b2
 have HB1:=Lib.hid (b1.alloc (.cells #[.slice none 0 0, .slice none 0 0] 35))
 have HB2:=Lib.hid b2
 have HB:Hid (Below w.heap.size w ((w.alloc (.cells #[.int .i64 f.ints, .int .i64 f.bools,av,cv] 29)).alloc (.cells #[.slice none 0 0, .slice none 0 0] 35))):=Lib.hid (((zR _ _).alloc (Nat.le_refl _) _).alloc (by simp) _)
 clear b1 b2
 go_enter Try.func18,Try.ntmps18
 go_upto_region 1 with fail
 generalize ((w.alloc (.cells #[.int .i64 f.ints, .int .i64 f.bools,av,cv] 29)).alloc (.cells #[.slice none 0 0, .slice none 0 0] 35))=W at *
 have q0:=HB1.out.cell 0
 have q1:=HB1.out.cell 1
 have q2:=HB1.out.cell 2
 have q3:=HB1.out.cell 3
 simp only [zA,zB,zC] at q0 q1 q2 q3
 go_wp2_with fail
 refine (oP _ _ f l _ (HF.out.keep HB.out) (HL.out.keep HB.out) HQ.out).mono ?_
 rintro e w2 ⟨rfl,hbw⟩
 rw [HC.out]
 have HB3:=Lib.hid (HB.out.trans (hbw.mono HB.out.size))
 have hbk:=HB2.out.keep hbw
 have p0:=hbk.cell 0
 have p1:=hbk.cell 1
 simp only [zA,zB,zC] at p0 p1
 clear hbw q0 q1 q2 q3 hbk
 go_wp2_with fail
 go_ret
 exact ⟨rfl,HB3.out⟩
def SlvVal (w:World) (f:Form):List Int ⊕ List Stp→Value→Value→Value→Prop
 | .inl val,m0,m1,lv=>lv = .slice none 0 0∧∃xs,Bools w m0 (val.map fun y=>decide (0<y))∧Ints w m1 xs∧Sat f xs (val.map fun y=>decide (0<y))∧∀x∈xs,Forty x
 | .inr l,m0,m1,lv=>m0 = .slice none 0 0∧m1 = .slice none 0 0∧Stps w lv l∧oF f l∧chk (wX f [] l) l.length=(0,0)
theorem SlvVal.keep {w w':World} {f:Form} {o:List Int ⊕ List Stp} {m0 m1 lv:Value} (h:SlvVal w f o m0 m1 lv) (hb:Below w.heap.size w w'):SlvVal w' f o m0 m1 lv:=by
 cases o with
 | inl val=>obtain ⟨h1,xs,h2,h3,h4⟩:=h;exact ⟨h1,xs,h2.keep hb,h3.keep hb,h4⟩
 | inr l=>obtain ⟨h1,h2,h3,h4⟩:=h;exact ⟨h1,h2,h3.keep hb,h4⟩
theorem SlvVal.shape {w:World} {f:Form} {o:List Int ⊕ List Stp} {m0 m1 lv:Value} (h:SlvVal w f o m0 m1 lv):∃A n c A' n' c',m0 = .slice A n c∧m1 = .slice A' n' c':=by
 cases o with
 | inl val=>obtain ⟨h1,xs,⟨A,c,h2, -⟩,⟨A',c',h3, -⟩,h4⟩:=h;exact ⟨_,_,_,_,_,_,h2,h3⟩
 | inr l=>obtain ⟨h1,h2,h3,h4⟩:=h;exact ⟨_,_,_,_,_,_,h1,h2⟩
theorem right_any {f:Form} {o:List Int ⊕ List Stp} {fv m0 m1 lv:Value} {w:World} (hf:IsForm w fv f) (hv:validF f=0) (h:SlvVal w f o m0 m1 lv) :
  Calls Try.prog 18 #[fv, .agg #[m0,m1],lv, .bool o.isLeft] w fun e w'=>e = .returned (.bool true)∧Below w.heap.size w w':=by
 cases o with
 | inl val=>obtain ⟨rfl,xs,h2,h3,h4,h5⟩:=h;exact right_sat hf h2 h3 hv h5 h4
 | inr l=>obtain ⟨rfl,rfl,h3,h4,h5⟩:=h;exact right_ref hf h3 h4 h5
theorem bools_lit {w:World} {g:Nat} {xs:List Bool} (hb:Blk w g 4 (xs.map Value.bool).toArray) (hl:xs.length≤maxLen):Bools w (.slice (some ⟨g,0,none⟩) xs.length xs.length) xs:=by
 refine ⟨_,_,rfl,Nat.le_refl _,hl,fun _=>⟨g,0,rfl,hb.lt,fun j u hu => ?_⟩⟩
 rw [hb.cell,qZ]
 simpa using hu
theorem rB {f:Form} {B:Nat} (hv:validF f=0) (hb:f.bools=(B:Int)) (hB:B≤24) (hcl:∀c∈f.clauses,c.length≤200000):∀w fv,IsForm w fv f →
  ∃o,SlvGood f B o∧Calls Try.prog 17 #[fv] w fun e w'=>∃m0 m1 lv,e = .returned (.tuple #[.agg #[m0,m1],lv, .bool o.isLeft])∧SlvVal w' f o m0 m1 lv∧Below w.heap.size w w':=by
 intro w fv hf
 obtain ⟨N,hN⟩:∃N:Nat,f.ints=N:=⟨f.ints.toNat,by have:=(dG hv).2.1;omega⟩
 have hq:=nK hv hb hN
 obtain ⟨o,hg,hc⟩:=cV hf hq hB hv (fun c h=>by have:=hcl c h;omega)
 refine ⟨o,hg,hc.mono fun e w' h => ?_⟩
 cases o with
 | inl val =>
  obtain ⟨bb,gx,xs,rfl,h1,h2,h3,h4,h5,h6,h7,h8⟩:=h
  have hm:ModelOk f B val:=hg
  have hfit:=hm.fits hq h6
  have hbl:(val.map fun y=>decide (0<y)).length=B:=by rw [List.length_map,hm.len]
  have hN3:N≤32:=by have:=(dG hv).1;omega
  have i1:=bM (xs:=xs) h2 (zR _ _) (fun x hx=>by have:=h7 x hx;constructor<;>omega) (by unfold maxLen;omega)
  have i2:=bools_lit (xs:=val.map fun y=>decide (0<y)) h1 (by rw [hbl];unfold maxLen;omega)
  rw [h5] at i1
  rw [hbl] at i2
  refine ⟨_,_,_,rfl,⟨rfl,xs,i2,i1,⟨by rw [hbl,hb],by rw [h5,hN],fun j d hd => ?_,hm.clauses⟩,fun x hx=>by have:=h7 x hx;constructor<;>omega⟩,h8⟩
  have hj:=hfit j d hd
  unfold atomOk
  rw [List.getD_eq_getElem?_getD,hj]
  unfold gi
  simp
 | inr l =>
  obtain ⟨v,rfl,h1,h2⟩:=h
  have hr:RefOk f l:=hg
  have hL:LIM=1099511627776:=rfl
  refine ⟨_,_,_,rfl,⟨rfl,rfl,h1,⟨hv,hcl,by have:=hr.len;omega,fun s hs=>by have:=(hr.st s hs).2.2.2.2.1;omega⟩,?_⟩,h2⟩
  obtain ⟨cs,r1,r2,r3⟩:=hr.r
  unfold chk
  rw [r1,if_pos rfl,if_neg]
  rintro (h|h)
  ·omega
  ·exact h r3
theorem iE {P:Program} {ops:Array Oper} {o:Oper} {a:Act} {w:World} {K:Act→World→Prop} {Q:Exit→Act→World→Prop} {E:Prop} (hgd:o.guard=none) (s x:Operand) (t:TypeId)
  (ho:o.op = .call { callee := .builtin .append,args := #[s,x],argTypes := #[t,t] })
  (base:Nat) (e:TypeId) (i:TypeInfo) (z:Value) (size bytes:Nat) (ht:P.underlying t=some (.slice e)) (hi:P.info? e=some i) (hz:i.zero=some z)
  (hsize:i.size=size) (hby:i.bytes=bytes) (hzs:z.cells.size=size) (hsz:0<size)
  (v:Value) (n:Nat) (xs:List Value) (hs:a.eval s=v) (hown:w.ownsRow base e size v n xs)
  (A:Option Addr) (m c:Nat) (news:List Value) (hx:a.eval x = .slice A m c) (hl:news.length=m * size) (hr:Rd w A news) (h1:∀u∈news,u.oneCell'=true)
  (h63:n+m≤maxLen) (hbytes:(n+m) * bytes≤140737488355328) (hbase:base≤w.heap.size)
  (h:∀v' w',w'.ownsRow base e size v' (n+m) (xs++news)→w.grownBy w' v.ownBlock→(v'.ownBlock=v.ownBlock∨v'.ownBlock=some w.heap.size)→K (a.put o.dst v') w') :
  if Region.wanted o (yielded ops a.tmps)=true then Oper.wp P o a w K Q else E:=by
 have hw:Region.wanted o (yielded ops a.tmps)=true:=by simp [Region.wanted,hgd]
 rw [if_pos hw]
 obtain ⟨v',w',hr,h2,h3,h4⟩:=aU (P:=P) w base t o.type e i z size bytes ht hi hz hsize hby hzs hsz v n xs hown A m c news hl hr h1 h63 hbytes hbase
 unfold Oper.wp execOp
 simp only [ho,resolve,invoke,builtin,vN,vO,xY,kW,qC,xU,hs,hx,hr]
 exact h v' w' h2 h3 h4
def Form.withC (f:Form) (cs:List (List Int)):Form:=⟨f.ints,f.bools,f.atoms,cs⟩
theorem pP {f:Form} (h:validF f=0) {cs:List (List Int)} (hl:cs.length≤32768) (hc:∀c∈cs,∀x∈c,dF f.bools x=true):validF (f.withC cs)=0:=by
 obtain ⟨h1,h2,h3,h4,h5,h6,h7,h8⟩:=dG h
 have e1:(f.withC cs).ints=f.ints:=rfl
 have e2:(f.withC cs).bools=f.bools:=rfl
 have e3:(f.withC cs).atoms=f.atoms:=rfl
 have e4:(f.withC cs).clauses=cs:=rfl
 rw [aA (by omega) (by omega) (by rw [e4];omega) (by omega) (by omega) (by rw [e2,e3];omega),aZ]
 ·rfl
 ·rw [qH];exact h7
 ·rw [qH];intro xs hx;rw [qH];exact hc xs hx
set_option maxHeartbeats 400000 in
theorem same_any (a b:Value) (xs ys:List Int) (w:World) (ha:Ints w a xs) (hb:Ints w b ys) :
  Calls Try.prog 27 #[a,b] w fun e w'=>e = .returned (.bool (decide (xs=ys)))∧∃n,w'=w.drewN n:=by
 obtain ⟨A,c,rfl,hl,hm,hx,hr⟩:=ha
 obtain ⟨A',c',rfl,hl',hm',hx',hr'⟩:=hb
 unfold maxLen at hm hm'
 by_cases hlen:xs.length=ys.length
 ·have hne:((xs.length:Int) != (ys.length:Int))=false:=by simp;omega
  have HX:=Lib.hid hx
  have HX':=Lib.hid hx'
  have HR:=Lib.hid hr
  have HR':=Lib.hid hr'
  have HL:=Lib.hid hlen
  clear hx hx' hr hr' hlen
  go_enter Try.func27,Try.ntmps27
  go_wp2
  go_loopw [13] (fun i wr=>∃k n,k≤xs.length∧i = .int .i64 (k:Nat)∧xs.take k=ys.take k∧wr=w.drewN n) (fun i _=>xs.length-(intOf i).toNat)
  case atStart=>exact ⟨0,0,by omega,rfl,by simp,rfl⟩
  case round =>
   obtain ⟨k,n,hk,rfl,heq,rfl⟩:=hrel
   have HE:=Lib.hid heq
   clear heq
   by_cases hlt:k<xs.length
   ·obtain ⟨x,hxk⟩:∃x,xs[k]? = some x:=⟨_,List.getElem?_eq_getElem hlt⟩
    obtain ⟨y,hyk⟩:∃y,ys[k]? = some y:=⟨_,List.getElem?_eq_getElem (by have:=HL.out;omega)⟩
    obtain ⟨b1,o1,rfl,hb1,hc1⟩:=HR.out.int hxk
    obtain ⟨b2,o2,rfl,hb2,hc2⟩:=HR'.out.int hyk
    have HXK:=Lib.hid hxk
    have HYK:=Lib.hid hyk
    clear hxk hyk
    have hlt2:k<ys.length:=by have:=HL.out;omega
    by_cases hxy:x=y
    ·subst hxy
     go_wp2
     go_quiet (fail)
     go_wp2
     go_roundw
     case rel=>exact ⟨k+1,_,by omega,by go_num,by rw [wL HXK.out,wL HYK.out,HE.out],rfl⟩
     case measure=>simp [intOf];omega
    ·have hbe:(x != y)=true:=by simpa using hxy
     have HD:Hid (decide (xs=ys)=false):=by
      refine decide_eq_false fun h => ?_
      subst h
      have h1:=HXK.out
      rw [HYK.out] at h1
      exact hxy (by injection h1 with h1;exact h1.symm)
     clear hxy
     go_wp2
     go_quiet (fail)
     go_wp2
     go_ret
     exact ⟨by rw [HD.out];rfl,_,kO _ _ _⟩
   ·have HD:Hid (decide (xs=ys)=true):=by
     refine decide_eq_true ?_
     have h1:=HE.out
     have h2:=HL.out
     rwa [zU (by omega),zU (by omega)] at h1
    go_wp2
    go_ret
    exact ⟨by rw [HD.out];rfl,_,rfl⟩
 ·have hd:decide (xs=ys)=false:=by simp;intro h;exact hlen (by rw [h])
  rw [hd]
  clear hx hx' hr hr'
  have hne:((xs.length:Int) != (ys.length:Int))=true:=by simp;omega
  go_enter Try.func27,Try.ntmps27
  go_wp2
  go_ret
  exact ⟨rfl,0,rfl⟩
end Go.Proofs.Yticieifacalocaa
