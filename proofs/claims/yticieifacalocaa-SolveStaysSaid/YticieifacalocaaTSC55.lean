/- RefuteAll CutM StaysW LawSSt -/
import Derived.Test.YticieifacalocaaTSC50
namespace Go.Proofs.Yticieifacalocaa
open Go.RowKit
set_option maxRecDepth 100000 in
set_option maxHeartbeats 1000000 in
theorem small_any (pv:Value) (a b c:Int) (L:List Int) (w:World) (hp:fL w pv a b c L) :
  Calls Try.prog 15 #[pv] w (ProbRet w (a % 3) (b % 6) (c % 5)):=by
 have HP:=Lib.hid hp
 obtain ⟨nv,rfl,ha,hb,hc,hL⟩:=hp
 have HL:=Lib.hid hL
 obtain ⟨a0,a1⟩:=ha
 obtain ⟨b0,b1⟩:=hb
 obtain ⟨c0,c1⟩:=hc
 obtain ⟨An,cn,rfl, -, -, -, -⟩:=hL
 have ra:0≤a % 3∧a % 3≤255:=by omega
 have rb:0≤b % 6∧b % 6≤255:=by omega
 have rc:0≤c % 5∧c % 5≤255:=by omega
 go_enter Try.func15,Try.ntmps15
 go_wp2_with fail
 have hbw:Below w.heap.size w ((w.alloc (.cells #[.int .u8 (a % 3), .int .u8 (b % 6), .int .u8 (c % 5), .slice An L.length cn] 25)).alloc (.cells #[.int .i64 0, .int .i64 0, .slice none 0 0, .slice none 0 0] 29)):=((zM _ _).alloc (Nat.le_refl _) _).alloc (by simp) _
 have B2:=Blk.new (w.alloc (.cells #[.int .u8 (a % 3), .int .u8 (b % 6), .int .u8 (c % 5), .slice An L.length cn] 25)) 29 #[.int .i64 0, .int .i64 0, .slice none 0 0, .slice none 0 0]
 rw [show (w.alloc (.cells #[.int .u8 (a % 3), .int .u8 (b % 6), .int .u8 (c % 5), .slice An L.length cn] 25)).heap.size=w.heap.size+1 by simp] at B2
 generalize (w.alloc (.cells #[.int .u8 (a % 3), .int .u8 (b % 6), .int .u8 (c % 5), .slice An L.length cn] 25)).alloc (.cells #[.int .i64 0, .int .i64 0, .slice none 0 0, .slice none 0 0] 29)=W at *
 have HBW:=Lib.hid hbw
 have hlt:=B2.lt
 refine (fW _ (a % 3) (b % 6) (c % 5) L _ ⟨_,rfl,ra,rb,rc,HL.out.keep HBW.out⟩).mono ?_
 rintro e w2 ⟨fv,f,rfl,hf,hsm,hb2,hst⟩
 have HB2:=Lib.hid (HBW.out.trans (hb2.mono HBW.out.size))
 have HSM:=Lib.hid hsm
 have HST:=Lib.hid hst
 have B3:=B2.keep hb2
 obtain ⟨av,cv,rfl, -, -,hf3,hf4⟩:=hf
 obtain ⟨Aa,ca,rfl, -, -, -, -⟩:=hf3
 obtain ⟨Ac,cc,vs,rfl, -, -, -, -, -⟩:=hf4
 have t0:=B3.cell 0
 have t1:=B3.cell 1
 have t2:=B3.cell 2
 have t3:=B3.cell 3
 have z0:=B3.frozen 0
 have z1:=B3.frozen 1
 have z2:=B3.frozen 2
 have z3:=B3.frozen 3
 simp only [zA,zB,zC] at t0 t1 t2 t3
 clear hbw hb2 hsm hst B2 B3
 go_wp2_with fail
 have hg:=aL w2 (w.heap.size+1) 0 (.int .i64 f.ints) (.int .i64 f.bools) (.slice Aa f.atoms.length ca) (.slice Ac f.clauses.length cc)
 exact xG (v := .agg #[.int .i64 f.ints, .int .i64 f.bools, .slice Aa f.atoms.length ca, .slice Ac f.clauses.length cc]) (by simp [results,Try.results15,go_sem,t0,t1,t2,t3]) rfl ⟨_,_,rfl,HST.out _ _ hg hlt,HSM.out,HB2.out.grown hg HB2.out.size fun g e=>by injection e with e;omega⟩
theorem addr_add0 (a:Addr):a.add 0=a:=by unfold Addr.add;simp
theorem cut_fromM (A:Option Addr) (n c k:Nat) (hk:k≤n) (hn:n≤c) :
  ∃dp,(∀w,(Instr.slice 27 (.slice A n c) (some (.int .i64 (k:Int))) none none).run Try.prog w = .ok (.slice dp (n-k) (c-k)) w)∧(k<n→dp=A.map fun a=>a.add k):=by
 refine ⟨if c=k then A else A.map (fun a=>a.add k),fun w => ?_,fun h=>by rw [if_neg (by omega)]⟩
 rw [jT (P:=Try.prog) (w:=w) 27 _ n c (by kernel_rfl) .i64 (k:Int) (by omega) (by omega),show (sizeOf (Try.prog.elem 27)).run Try.prog w = .ok 1 w by kernel_rfl]
 simp only [Result.andThen,sliced,Int.toNat_natCast,yC]
theorem cut_toM (A:Option Addr) (n c k:Nat) (hk:k≤c) (w:World):(Instr.slice 27 (.slice A n c) none (some (.int .i64 (k:Int))) none).run Try.prog w = .ok (.slice A k c) w:=by
 rw [run_slice_h (P:=Try.prog) (w:=w) 27 _ n c (by kernel_rfl) .i64 (k:Int) (by omega) (by omega),show (sizeOf (Try.prog.elem 27)).run Try.prog w = .ok 1 w by kernel_rfl]
 cases A<;>simp only [Result.andThen,sliced,Int.toNat_natCast,vQ,yX,Option.map_none,addr_add0,wE,ite_self]
theorem aW {P:Program} {ops:Array Oper} {o:Oper} {a:Act} {w:World} {K:Act→World→Prop} {Q:Exit→Act→World→Prop} {E:Prop} (hgd:o.guard=none) (s x:Operand) (t:TypeId)
  (ho:o.op = .call { callee := .builtin .append,args := #[s,x],argTypes := #[t,t] })
  (base:Nat) (e:TypeId) (i:TypeInfo) (z:Value) (size bytes:Nat) (ht:P.underlying t=some (.slice e)) (hi:P.info? e=some i) (hz:i.zero=some z)
  (hsize:i.size=size) (hby:i.bytes=bytes) (hzs:z.cells.size=size) (hsz:0<size)
  (v:Value) (n:Nat) (xs:List Value) (hs:a.eval s=v) (hown:w.ownsRow base e size v n xs)
  (A:Option Addr) (m c:Nat) (news:List Value) (hx:a.eval x = .slice A m c) (hl:news.length=m * size) (hr:Rd w A news) (h1:∀u∈news,u.oneCell'=true)
  (h63:n+m≤maxLen) (hbytes:(n+m) * bytes≤140737488355328) (hbase:base≤w.heap.size)
  (h:∀v' w',w'.ownsRow base e size v' (n+m) (xs++news)→w.grownBy w' v.ownBlock→(v'.ownBlock=v.ownBlock∨v'.ownBlock=some w.heap.size)→K (a.put o.dst v') w') :
  if Region.wanted o (yielded ops a.tmps)=true then Oper.wp P o a w K Q else E:=by
 have hw:Region.wanted o (yielded ops a.tmps)=true:=by simp [Region.wanted,hgd]
 rw [if_pos hw]
 obtain ⟨v',w',hr,h2,h3,h4⟩:=fI (P:=P) w base t o.type e i z size bytes ht hi hz hsize hby hzs hsz v n xs hown A m c news hl hr h1 h63 hbytes hbase
 unfold Oper.wp execOp
 simp only [ho,resolve,invoke,builtin,vR,vS,kD,kZ,zY,yY,hs,hx,hr]
 exact h v' w' h2 h3 h4
theorem mat_of_row {w:World} {base n:Nat} {v:Value} {us:List Value} {xss:List (List Int)} (ho:w.ownsRow base 33 1 v n us) (hl:us.length=xss.length)
  (hi:∀(k:Nat) (u:Value) (xs:List Int),us[k]? = some u→xss[k]? = some xs→Ints w u xs):Mat w v xss:=by
 obtain ⟨A,c,h1,h2,h3,h4⟩:=wQ ho
 have hn:=ho.1
 exact ⟨A,c,us,by rw [h1];congr 1;omega,by omega,h3,hl,h4,hi⟩
theorem vs_ones {w:World} {vs:List Value} {xss:List (List Int)} (hl:vs.length=xss.length) (hi:∀(k:Nat) (u:Value) (xs:List Int),vs[k]? = some u→xss[k]? = some xs→Ints w u xs):∀u∈vs,u.oneCell'=true:=by
 intro u hu
 obtain ⟨k,hk,rfl⟩:=yD hu
 obtain ⟨A,c,e, -⟩:=hi k _ _ (List.getElem?_eq_getElem hk) (List.getElem?_eq_getElem (by omega))
 rw [e]
 rfl
def Form.withC (f:Form) (cs:List (List Int)):Form:=⟨f.ints,f.bools,f.atoms,cs⟩
theorem lN {f:Form} (h:validF f=0) {cs:List (List Int)} (hl:cs.length≤32768) (hc:∀c∈cs,∀x∈c,bC f.bools x=true):validF (f.withC cs)=0:=by
 obtain ⟨h1,h2,h3,h4,h5,h6,h7,h8⟩:=gY h
 have e1:(f.withC cs).ints=f.ints:=rfl
 have e2:(f.withC cs).bools=f.bools:=rfl
 have e3:(f.withC cs).atoms=f.atoms:=rfl
 have e4:(f.withC cs).clauses=cs:=rfl
 rw [eA (by omega) (by omega) (by rw [e4];omega) (by omega) (by omega) (by rw [e2,e3];omega),fO]
 ·rfl
 ·rw [qM];exact h7
 ·rw [qM];intro xs hx;rw [qM];exact hc xs hx
theorem sV {f:Form} {xs:List Int} {bs:List Bool} (h:Sat f xs bs) (hv:validF f=0):Fits f.atoms bs xs∧∀c∈f.clauses,c.any (holds bs)=true:=by
 obtain ⟨h1,h2,h3,h4⟩:=h
 refine ⟨fun i d hd => ?_,h4⟩
 have hi:=(zG.1 hd).1
 have hb:=(gY hv)
 have hib:i<bs.length:=by omega
 have:=h3 i d hd
 unfold atomOk at this
 rw [List.getD_eq_getElem?_getD,List.getElem?_eq_getElem hib] at this
 rw [List.getElem?_eq_getElem hib]
 unfold gi
 simpa using this
theorem solve_less {w:World} {f:Form} {B:Nat} {val:List Int} {o:List Int ⊕ List Stp} {m0 m1 lv:Value} {cs:List (List Int)} (h:SlvVal w f (.inl val) m0 m1 lv) (hv:validF f=0) (hs:∀c∈cs,c∈f.clauses) (hg:SlvGood (f.withC cs) B o):o.isLeft=true:=by
 obtain ⟨-,xs, -, -,h4, -⟩:=h
 obtain ⟨h1,h2⟩:=sV h4 hv
 obtain ⟨v2,rfl, -⟩:=hg.sat (bs:=val.map fun y=>decide (0<y)) (xs:=xs) h1 (fun c hc=>h2 c (hs c hc))
 rfl
theorem solve_more {w':World} {f:Form} {B:Nat} {l:List Stp} {o:List Int ⊕ List Stp} {m0 m1 lv:Value} {cs:List (List Int)} (h:SlvGood f B (.inr l)) (hv:validF (f.withC cs)=0) (hs:∀c∈f.clauses,c∈cs) (h2:SlvVal w' (f.withC cs) o m0 m1 lv):o.isLeft=false:=by
 cases o with
 | inr l=>rfl
 | inl val =>
  obtain ⟨-,xs, -, -,h4, -⟩:=h2
  obtain ⟨h5,h6⟩:=sV h4 hv
  exact (RefOk.no (f:=f) h h5 (fun c hc=>h6 c (hs c hc))).elim
theorem ix_cut {P:Value→List Int→Prop} {vs:List Value} {xss:List (List Int)} (hl:vs.length=xss.length) (h:∀(j:Nat) (u:Value) (xs:List Int),vs[j]? = some u→xss[j]? = some xs→P u xs) (k:Nat) (hk:k≤vs.length) :
  ∀(j:Nat) (u:Value) (xs:List Int),(vs.take k++vs.drop (k+1))[j]? = some u→(xss.take k++xss.drop (k+1))[j]? = some xs→P u xs:=by
 intro j u xs h1 h2
 rw [xZ,qG,qV hk] at h1
 rw [xZ,qG,qV (by omega)] at h2
 split at h1
 ·rename_i hj
  rw [if_pos hj] at h2
  rw [qS,if_pos hj] at h1 h2
  exact h j u xs h1 h2
 ·rename_i hj
  rw [if_neg hj] at h2
  rw [yM] at h1 h2
  exact h _ u xs h1 h2
structure SG (w5 wr:World) (f:Form) (B:Int) (av:Value) (gk:Nat) (A:Option Addr) (c:Nat) (us:List Value) (nw:List Int):Prop where
 b:Blk wr gk 29 #[.int .i64 f.ints, .int .i64 B,av, .slice A us.length c]
 m:OwnMat wr (gk+1) (fun b=>b≠gk) (.slice A us.length c) us (f.clauses++nw.map fun x=>[x])
 ok:∀x∈nw,bC f.bools x=true
 n:nw.length≤5
 bl:Below gk w5 wr
section
variable {w5 wr w':World} {f:Form} {B x:Int} {av v':Value} {gk c:Nat} {A:Option Addr} {us vs:List Value} {nw:List Int} {o2:Obj}
theorem SG.start (hb:Blk wr gk 29 #[.int .i64 f.ints, .int .i64 B,av, .slice A us.length c]) (ho:wr.ownsRow (gk+1) 33 1 (.slice A us.length c) us.length us) (hl:us.length=f.clauses.length)
  (hi:∀(j:Nat) (u:Value) (xs:List Int),us[j]? = some u→f.clauses[j]? = some xs→IntsO wr (fun b=>b<gk) u xs) (hbl:Below gk w5 wr):SG w5 wr f B av gk A c us []:=by
 refine ⟨hb,⟨ho,by simpa using hl,fun j u xs h1 h2=>(hi j u xs h1 (by simpa using h2)).mono fun b _ hlt=>⟨by omega,fun e => ?_⟩⟩,by simp,by simp,hbl⟩
 have:=(ho.lt b e.symm).1
 omega
theorem SG.push (h:SG w5 wr f B av gk A c us nw) (hx:bC f.bools x=true) (hI:I64 x) (hn:nw.length<5)
  (ho:w'.ownsRow (gk+1) 33 1 v' (us.length+1) (us++[.slice (some ⟨wr.heap.size,0,none⟩) 1 1])) (hg:((wr.alloc (.cells #[.int .i64 x] 3)).alloc o2).grownBy w' (Value.slice A us.length c).ownBlock)
  (hat:v'.ownBlock=(Value.slice A us.length c).ownBlock∨v'.ownBlock=some ((wr.alloc (.cells #[.int .i64 x] 3)).alloc o2).heap.size) :
  ∃A' c',v' = .slice A' (us.length+1) c'∧Blk w' gk 29 #[.int .i64 f.ints, .int .i64 B,av, .slice A us.length c]∧SG w5 (w'.setCell ⟨gk,3,none⟩ v') f B av gk A' c' (us++[.slice (some ⟨wr.heap.size,0,none⟩) 1 1]) (nw++[x]):=by
 obtain ⟨A',c',rfl, -, -, -⟩:=wQ ho
 have hlt:=h.b.lt
 have hb1:Blk w' gk 29 #[.int .i64 f.ints, .int .i64 B,av, .slice A us.length c]:=((h.b.alloc _).alloc _).grown hg (by
  intro e
  have:=(h.m.1.lt gk e.symm).1
  omega)
 have hal:Below wr.heap.size wr (wr.alloc (.cells #[.int .i64 x] 3)):=(zM _ _).alloc (Nat.le_refl _) _
 have hio:IntsO (wr.alloc (.cells #[.int .i64 x] 3)) (fun b=>b≠gk∧some b≠(Value.slice A us.length c).ownBlock) (.slice (some ⟨wr.heap.size,0,none⟩) 1 1) [x]:=by
  refine ⟨_,1,rfl,Nat.le_refl _,by simp [maxLen],fun y hy=>by rw [zI.1 hy];exact hI,fun _=>⟨_,0,rfl,by simp,⟨by omega,fun e => ?_⟩,fun j u hj => ?_⟩⟩
  ·have:=(h.m.1.lt _ e.symm).2
   omega
  ·obtain rfl:j=0:=by cases j with|zero=>rfl|succ j=>simp at hj
   have e:u = .int .i64 x:=by simpa using hj.symm
   rw [e]
   exact (Blk.new wr 3 #[.int .i64 x]).cell 0
 have hm:=(h.m.keep hal).push hio ho hg hat
 have hown:w'.ownsRow (gk+1) 33 1 (.slice A' (us.length+1) c') (us++[Value.slice (some ⟨wr.heap.size,0,none⟩) 1 1]).length (us++[.slice (some ⟨wr.heap.size,0,none⟩) 1 1]):=hm.1
 have hm2:=hm.grown (wP w' gk 3 (.slice A' (us.length+1) c')) (bM hown (by omega)) (fun b hb e=>hb (by injection e))
 refine ⟨A',c',rfl,hb1,⟨?_,?_,?_,by simp;omega,?_⟩⟩
 ·rw [zH,qL]
  exact hb1.set_ 3 _
 ·rw [zH,qL,List.map_append,←zZ]
  exact hm2
 ·intro y hy
  rcases zK.1 hy with hy|hy
  ·exact h.ok y hy
  ·rw [zI.1 hy];exact hx
 ·refine Below.setCell (((h.bl.alloc (by omega) _).alloc (by simp;omega) _).grown hg (by simp;omega) fun g e => ?_) (Nat.le_refl _) _
  have:=(h.m.1.lt g e).1
  omega
end
set_option maxRecDepth 100000 in
set_option maxHeartbeats 8000000 in
theorem lawSSt (pv mv:Value) (a b c:Int) (L ms:List Int) (d:Int) (w:World) (hp:fL w pv a b c L) (hms:Byts w mv ms) (hd0:0≤d) (hd1:d≤255) :
  Calls Try.prog 9 #[pv,mv, .int .u8 d] w fun e w'=>e = .returned (.bool true)∧Below w.heap.size w w':=by
 obtain ⟨iS,hiS,hzS0,hzS1,hzS2⟩:=qC cD
 have HP:=Lib.hid hp
 obtain ⟨nv,rfl, -, -, -,hL⟩:=hp
 obtain ⟨An,cn,rfl, -, -, -, -⟩:=hL
 have HMS:=Lib.hid hms
 obtain ⟨Al,cl,rfl,hl1,hl2, -, -⟩:=hms
 unfold maxLen at hl2
 have HB:Hid (Below w.heap.size w (w.alloc (.cells #[.int .u8 a, .int .u8 b, .int .u8 c, .slice An L.length cn] 25))):=Lib.hid ((zM _ _).alloc (Nat.le_refl _) _)
 go_enter Try.func9,Try.ntmps9
 go_wp2_with fail
 generalize w.alloc (.cells #[.int .u8 a, .int .u8 b, .int .u8 c, .slice An L.length cn] 25)=W at *
 refine (small_any _ a b c L _ ?hp).mono ?_
 case hp=>obtain ⟨nv,e1,e2⟩:=HP.out;exact ⟨_,rfl,e2.1,e2.2.1,e2.2.2.1,by injection e1 with e1;simp only [uI,uB,wL,wO] at e1;rw [e1];exact e2.2.2.2.keep HB.out⟩
 rintro e w2 ⟨fv,f,rfl,hf,hsm,hb2⟩
 obtain ⟨B,hB,hB1,hB2⟩:=hsm.nb
 have HB2:=Lib.hid (HB.out.trans (hb2.mono HB.out.size))
 have HF2:=Lib.hid hf
 have HV:=Lib.hid hsm.valid
 have HCC:=Lib.hid hsm.four
 have hcl40:f.clauses.length≤40:=hsm.2.2.2.1
 obtain ⟨av,cv,rfl, -, -,hf3,hf4⟩:=hf
 obtain ⟨Aa,ca,rfl, -, -, -, -⟩:=hf3
 obtain ⟨Ac,cc,vs,rfl,hcn,hcm, -, -, -⟩:=hf4
 unfold maxLen at hcm
 clear hb2 hsm HB HP
 have HBK:=Lib.hid (Blk.new w2 29 #[.int .i64 f.ints, .int .i64 (B:Int), .slice Aa f.atoms.length ca, .slice Ac f.clauses.length cc])
 have hb3:Below w2.heap.size w2 (w2.alloc (.cells #[.int .i64 f.ints, .int .i64 (B:Int), .slice Aa f.atoms.length ca, .slice Ac f.clauses.length cc] 29)):=(zM _ _).alloc (Nat.le_refl _) _
 have HF3:=Lib.hid (HF2.out.keep hb3)
 have HB3:=Lib.hid (HB2.out.trans (hb3.mono HB2.out.size))
 rw [hB] at HF3
 clear hb3 HF2 HB2
 go_upto_region 2 with fail
 generalize w2.alloc (.cells #[.int .i64 f.ints, .int .i64 (B:Int), .slice Aa f.atoms.length ca, .slice Ac f.clauses.length cc] 29)=w3 at *
 generalize w2.heap.size=bk at *
 have q0:=HBK.out.cell 0
 have q1:=HBK.out.cell 1
 have q2:=HBK.out.cell 2
 have q3:=HBK.out.cell 3
 simp only [zA,zB,zC] at q0 q1 q2 q3
 obtain ⟨o,hgo,hc⟩:=bS HV.out hB (by omega) HCC.out w3 _ HF3.out
 have HC:=Lib.hid hc
 have HGO:=Lib.hid hgo
 clear hc hgo
 go_wp2_with fail
 refine HC.out.mono ?_
 rintro e w4 ⟨m0,m1,lv,rfl,hv4,hb4⟩
 have HSV:=Lib.hid hv4
 obtain ⟨Am,nm,cm,Ax,nx,cx,rfl,rfl⟩:=hv4.shape
 have hb5:Below w4.heap.size w4 (w4.alloc (.cells #[.slice Am nm cm, .slice Ax nx cx] 35)):=(zM _ _).alloc (Nat.le_refl _) _
 have HF5:=Lib.hid ((HF3.out.keep hb4).keep hb5)
 have HBK5:=Lib.hid ((HBK.out.keep hb4).keep hb5)
 have HB4:=Lib.hid (HB3.out.trans (hb4.mono HB3.out.size))
 have HB5:=Lib.hid (HB4.out.trans (hb5.mono HB4.out.size))
 have HMS5:=Lib.hid (HMS.out.keep HB5.out)
 clear hv4 hb4 hb5 HB4 HB3 HBK HF3 HC q0 q1 q2 q3
 generalize hoi:o.isLeft=oi at *
 go_upto_region 3 with fail
 generalize w4.alloc (.cells #[.slice Am nm cm, .slice Ax nx cx] 35)=w5 at *
 have q0:=HBK5.out.cell 0
 have q1:=HBK5.out.cell 1
 have q2:=HBK5.out.cell 2
 have q3:=HBK5.out.cell 3
 simp only [zA,zB,zC] at q0 q1 q2 q3
 have hb6:Below w5.heap.size w5 (w5.alloc (.cells #[.int .i64 f.ints, .int .i64 (B:Int), .slice Aa f.atoms.length ca, .slice Ac f.clauses.length cc] 29)):=(zM _ _).alloc (Nat.le_refl _) _
 have HG6:=Lib.hid (Blk.new w5 29 #[.int .i64 f.ints, .int .i64 (B:Int), .slice Aa f.atoms.length ca, .slice Ac f.clauses.length cc])
 have HB6:=Lib.hid hb6
 have HF6:=Lib.hid (HF5.out.keep hb6)
 have HBK6:=Lib.hid (HBK5.out.keep hb6)
 have HS6:Hid ((w5.alloc (.cells #[.int .i64 f.ints, .int .i64 (B:Int), .slice Aa f.atoms.length ca, .slice Ac f.clauses.length cc] 29)).heap.size=w5.heap.size+1):=Lib.hid (by simp)
 clear hb6
 go_upto_region 4 with fail
 generalize w5.alloc (.cells #[.int .i64 f.ints, .int .i64 (B:Int), .slice Aa f.atoms.length ca, .slice Ac f.clauses.length cc] 29)=w6 at *
 clear q0 q1 q2 q3
 have q0:=HBK6.out.cell 0
 have q1:=HBK6.out.cell 1
 have q2:=HBK6.out.cell 2
 have q3:=HBK6.out.cell 3
 simp only [zA,zB,zC] at q0 q1 q2 q3
 have HBX6:=Lib.hid (HB5.out.trans (HB6.out.mono HB5.out.size))
 obtain ⟨av',cv',e1,hI1,hI2,had,Ac',cc',vs',e2, -, -,hvl,hrd,hvs⟩:=HF5.out
 simp only [Value.agg.injEq,uI,uB,wL,wO] at e1
 obtain ⟨-,e3,e4⟩:=e1
 subst e3 e4
 injection e2 with e5 e9 e6
 clear e9
 subst e5 e6
 have HVL:=Lib.hid hvl
 have HBN:Hid (bk≠w5.heap.size):=Lib.hid (by have:=HBK5.out.lt;omega)
 have HRD:=Lib.hid (hrd.keep HB6.out)
 have HVS:=Lib.hid hvs
 have HON:=Lib.hid (vs_ones hvl hvs)
 have HAD:=Lib.hid had
 have HI12:=Lib.hid (And.intro hI1 hI2)
 clear hI1 hI2
 have hvn:vs'.length≤40:=by omega
 clear hvl hrd hvs had
 cases oi with
 | true =>
  obtain ⟨val,rfl⟩:∃val,o = .inl val:=by cases o with|inl v=>exact ⟨v,rfl⟩|inr l=>cases hoi
  clear hoi
  by_cases h0:f.clauses.length=0
  ·have y0:((f.clauses.length:Int) == 0)=true:=by simp;exact qK h0
   have y0b:(f.clauses.length:Int)=0:=by omega
   have HBZ:=HBX6
   clear h0
   go_wp2_with fail
   refine (eW _).mono ?_
   rintro e w13 ⟨rfl,hb13⟩
   have HB13:=Lib.hid (HBZ.out.trans (hb13.mono HBZ.out.size))
   clear hb13
   go_wp2_with fail
   go_ret
   exact ⟨rfl,HB13.out⟩
  ·have y0:((f.clauses.length:Int) == 0)=false:=by simp;intro h;exact h0 (by rw [h];rfl)
   have y0b:¬((f.clauses.length:Int)=0):=by omega
   have y0c:¬(f.clauses.length=0):=h0
   obtain ⟨k,hr⟩:∃k:Nat,d.tmod (f.clauses.length:Int)=(k:Int):=⟨(d.tmod (f.clauses.length:Int)).toNat,by have:=Int.tmod_nonneg (f.clauses.length:Int) hd0;omega⟩
   have hkn:k<f.clauses.length:=by have:=Int.tmod_lt_of_pos d (b:=(f.clauses.length:Int)) (by omega);omega
   obtain ⟨dp,hdp,hda⟩:=cut_fromM Ac f.clauses.length cc (k+1) (by omega) hcn
   have ct1:=cut_toM Ac f.clauses.length cc k (by omega)
   have ct2:∀w,(Instr.slice 27 (.slice Ac f.clauses.length cc) (some (.int .i64 ((k:Int)+1))) none none).run Try.prog w = .ok (.slice dp (f.clauses.length-(k+1)) (cc-(k+1))) w:=fun w=>by rw [show ((k:Int)+1)=((k+1:Nat):Int) by omega];exact hdp w
   have z1:IntKind.i64.wrap ((k:Int)+1)=(k:Int)+1:=qI _ (by omega)
   have HR1:Hid (∀w',Below w6.heap.size w6 w'→Rd w' Ac (vs'.take k)):=Lib.hid (fun w' hb=>by
    intro hn
    obtain ⟨b,off,hA,hlt,hc⟩:=(HRD.out.keep hb) (by rw [qG] at hn;omega)
    exact ⟨b,off,hA,hlt,fun j u hu=>hc j u (by rw [qS] at hu;split at hu;exact hu;cases hu)⟩)
   have HR2:Hid (∀w',Below w6.heap.size w6 w'→Rd w' dp (vs'.drop (k+1))):=Lib.hid (fun w' hb=>by
    intro hn
    rw [qU] at hn
    have hd:=(HRD.out.keep hb).drop (k+1)
    rw [←hda (by have:=HVL.out;omega)] at hd
    exact hd (by rw [qU];exact hn))
   have HL1:Hid ((vs'.take k).length=k * 1):=Lib.hid (by rw [qG];have:=HVL.out;omega)
   have HL2:Hid ((vs'.drop (k+1)).length=(f.clauses.length-(k+1)) * 1):=Lib.hid (by rw [qU];have:=HVL.out;omega)
   have HO1:Hid (∀u∈vs'.take k,u.oneCell'=true):=Lib.hid fun u hu=>HON.out u (zO hu)
   have HO2:Hid (∀u∈vs'.drop (k+1),u.oneCell'=true):=Lib.hid fun u hu=>HON.out u (uA hu)
   have HM1:Hid (0+k≤maxLen):=by refine Lib.hid ?_;unfold maxLen;omega
   have HM2:Hid ((0+k) * 24≤140737488355328):=by refine Lib.hid ?_;omega
   have HM3:Hid (k+(f.clauses.length-(k+1))≤maxLen):=by refine Lib.hid ?_;unfold maxLen;omega
   have HM4:Hid ((k+(f.clauses.length-(k+1))) * 24≤140737488355328):=by refine Lib.hid ?_;omega
   clear hdp hda
   go_upto_region 8 with fail
   go_region_held_law (fun w'=>w'.cell? ⟨bk,3,none⟩=some (.slice Ac f.clauses.length cc)) (first|exact q3|exact s7|exact s9|exact s10) (first
    | (refine aW rfl (.const (.slice none 0 0)) (.tmp 42) 27 rfl w6.heap.size 33 iS (.slice none 0 0) 1 24 Try.underlying27 hiS hzS0 hzS1 hzS2 rfl (by decide) (.slice none 0 0) (0) ([]) (by first|rfl|simp [Act.eval]) (qE _ _ _ _) Ac (k) (cc) (vs'.take k) (by first|rfl|simp [Act.eval]) HL1.out (HR1.out _ (by first|exact zM _ _|exact (zM _ _).drew)) HO1.out HM1.out HM2.out (Nat.le_refl _) ?_;intro v7 w7 hown hg hat;simp only [Nat.zero_add,xB] at hown;have HO7:=Lib.hid hown;have HB7:Hid (Below w6.heap.size w6 w7):=Lib.hid (jK (zM _ _).drew ((zM _ _).grown hg (Nat.le_refl _) fun k e=>by cases e));obtain ⟨A7,c7,hv7, -, -, -⟩:=wQ hown;subst hv7;have HZ7:Hid (w6.heap.size≤w7.heap.size):=Lib.hid HB7.out.size;have s7:w7.cell? ⟨bk,3,none⟩=some (.slice Ac f.clauses.length cc):=(HBK6.out.keep HB7.out).cell 3;clear hown hg hat)
    | (refine aW rfl (.tmp 43) (.tmp 48) 27 rfl w6.heap.size 33 iS (.slice none 0 0) 1 24 Try.underlying27 hiS hzS0 hzS1 hzS2 rfl (by decide) (.slice A7 k c7) (k) (vs'.take k) (by first|rfl|simp [Act.eval]) HO7.out dp (f.clauses.length-(k+1)) (cc-(k+1)) (vs'.drop (k+1)) (by first|rfl|simp [Act.eval]) HL2.out (HR2.out _ HB7.out) HO2.out HM3.out HM4.out HZ7.out ?_;intro v9 w9 hown hg hat;have HO9:=Lib.hid hown;have HB9:Hid (Below w6.heap.size w6 w9):=Lib.hid (HB7.out.grown hg HZ7.out fun k e=>(HO7.out.lt k e).1);obtain ⟨A9,c9,hv9, -, -, -⟩:=wQ hown;subst hv9;have s9:w9.cell? ⟨bk,3,none⟩=some (.slice Ac f.clauses.length cc):=(HBK6.out.keep HB9.out).cell 3;have hf9:w9.frozen? ⟨w5.heap.size,3,none⟩=false:=(HG6.out.keep HB9.out).frozen 3;have hc9:w9.cell? ⟨w5.heap.size,3,none⟩=some (.slice Ac f.clauses.length cc):=(HG6.out.keep HB9.out).cell 3;have s10:(w9.setCell ⟨w5.heap.size,3,none⟩ (.slice A9 (k+(f.clauses.length-(k+1))) c9)).cell? ⟨bk,3,none⟩=some (.slice Ac f.clauses.length cc):=((HBK6.out.keep HB9.out).grown (wP w9 w5.heap.size 3 (.slice A9 (k+(f.clauses.length-(k+1))) c9)) (fun e=>HBN.out (by injection e))).cell 3;clear hown hg hat))
   all_goals
    clear s7 s9 s10 hf9 hc9 ct1 ct2 z1
    have hg9:=wP w9 w5.heap.size 3 (.slice A9 (k+(f.clauses.length-(k+1))) c9)
    have HGB:Hid (Blk (w9.setCell ⟨w5.heap.size,3,none⟩ (.slice A9 (k+(f.clauses.length-(k+1))) c9)) w5.heap.size 29 #[.int .i64 f.ints, .int .i64 (B:Int), .slice Aa f.atoms.length ca, .slice A9 (k+(f.clauses.length-(k+1))) c9]):=Lib.hid ((HG6.out.keep HB9.out).set_ 3 _)
    have HOX:Hid ((w9.setCell ⟨w5.heap.size,3,none⟩ (.slice A9 (k+(f.clauses.length-(k+1))) c9)).ownsRow w6.heap.size 33 1 (.slice A9 (k+(f.clauses.length-(k+1))) c9) (k+(f.clauses.length-(k+1))) (vs'.take k++vs'.drop (k+1))):=Lib.hid (HO9.out.kept hg9 (bM HO9.out (by have:=HS6.out;omega)))
    have HB5X:Hid (Below w5.heap.size w5 (w9.setCell ⟨w5.heap.size,3,none⟩ (.slice A9 (k+(f.clauses.length-(k+1))) c9))):=Lib.hid ((HB6.out.trans (HB9.out.mono HB6.out.size)).setCell (by simp) _)
    have HBX:=Lib.hid (HB5.out.trans (HB5X.out.mono HB5.out.size))
    generalize w9.setCell ⟨w5.heap.size,3,none⟩ (.slice A9 (k+(f.clauses.length-(k+1))) c9)=wx at *
    have HMT:Hid (Mat wx (.slice A9 (k+(f.clauses.length-(k+1))) c9) (f.clauses.take k++f.clauses.drop (k+1))):=Lib.hid (mat_of_row HOX.out (by have:=HVL.out;simp only [zH,qG,qU];omega) (ix_cut HVL.out (fun j u xs h1 h2=>(HVS.out j u xs h1 h2).keep HB5X.out) k (by have:=HVL.out;omega)))
    have hcl:(f.clauses.take k++f.clauses.drop (k+1)).length=k+(f.clauses.length-(k+1)):=by simp only [zH,qG,qU];omega
    have HSUB:Hid (∀c∈f.clauses.take k++f.clauses.drop (k+1),c∈f.clauses):=Lib.hid fun c hc=>by
     rcases zK.1 hc with h|h
     ·exact zO h
     ·exact uA h
    have HVG:Hid (validF (f.withC (f.clauses.take k++f.clauses.drop (k+1)))=0):=Lib.hid (lN HV.out (by omega) fun c hc=>(gY HV.out).2.2.2.2.2.2.2 c (HSUB.out c hc))
    have HCG:Hid (∀c∈(f.withC (f.clauses.take k++f.clauses.drop (k+1))).clauses,c.length≤200000):=Lib.hid fun c hc=>HCC.out c (HSUB.out c hc)
    have HFG:Hid (IsForm wx (.agg #[.int .i64 f.ints, .int .i64 (B:Int), .slice Aa f.atoms.length ca, .slice A9 (k+(f.clauses.length-(k+1))) c9]) (f.withC (f.clauses.take k++f.clauses.drop (k+1)))):=Lib.hid (by rw [←hB];exact ⟨_,_,rfl,HI12.out.1,HI12.out.2,HAD.out.keep HB5X.out,HMT.out⟩)
    clear hcl
    clear q0 q1 q2 q3 HG6 HO7 HO9 HB7 HB9 HR1 HR2 HL1 HL2 HO1 HO2 HM1 HM2 HM3 HM4 HOX HMT HRD HVS HON HB6 HBK6 HF6 HBX6 hg9 HZ7
    have g0:=HGB.out.cell 0
    have g1:=HGB.out.cell 1
    have g2:=HGB.out.cell 2
    have g3:=HGB.out.cell 3
    simp only [zA,zB,zC] at g0 g1 g2 g3
    obtain ⟨o2,hg2,hc2⟩:=bS HVG.out (show (f.withC _).bools=(B:Int) from hB) (by omega) HCG.out _ _ HFG.out
    have HG2:=Lib.hid hg2
    have HC2:=Lib.hid hc2
    clear hg2 hc2
    go_wp2_with fail
    refine HC2.out.mono ?_
    rintro e w11 ⟨m2,m3,lv2,rfl,hv11,hb11⟩
    have eo:o2.isLeft=true:=solve_less HSV.out HV.out HSUB.out HG2.out
    rw [eo]
    obtain ⟨An2,nn2,cn2,Ax2,nx2,cx2,rfl,rfl⟩:=hv11.shape
    have HBY:=Lib.hid (HBX.out.trans (hb11.mono HBX.out.size))
    have HBZ:=Lib.hid (HBY.out.trans ((show Below w11.heap.size w11 (w11.alloc (.cells #[.slice An2 nn2 cn2, .slice Ax2 nx2 cx2] 35)) from (zM _ _).alloc (Nat.le_refl _) _).mono HBY.out.size))
    clear hv11 hb11 g0 g1 g2 g3
    go_upto_region 17 with fail
    generalize w11.alloc (.cells #[.slice An2 nn2 cn2, .slice Ax2 nx2 cx2] 35)=w12 at *
    go_wp2_with fail
    refine (eW _).mono ?_
    rintro e w13 ⟨rfl,hb13⟩
    have HB13:=Lib.hid (HBZ.out.trans (hb13.mono HBZ.out.size))
    clear hb13
    go_wp2_with fail
    go_ret
    exact ⟨rfl,HB13.out⟩
 | false =>
  obtain ⟨l,rfl⟩:∃l,o = .inr l:=by cases o with|inl v=>cases hoi|inr l=>exact ⟨l,rfl⟩
  clear hoi
  have hgk:w6.heap.size=w5.heap.size+1:=HS6.out
  go_upto_region 9 with fail
  go_wp2_with (at_builtin;(refine bJ _ rfl _ _ 27 rfl w6.heap.size 33 iS (.slice none 0 0) 1 24 Try.underlying27 hiS hzS0 hzS1 hzS2 rfl (by decide) _ 0 [] rfl (qE _ _ _ _) Ac f.clauses.length cc vs' rfl ?pa1 HRD.out HON.out ?pa2 ?pa3 (Nat.le_refl _) ?_))
  case pa1=>have:=HVL.out;omega
  case pa2=>unfold maxLen;omega
  case pa3=>omega
  intro v7 w7 hown hg hat
  obtain ⟨A7,c7,hv7, -, -, -⟩:=wQ hown
  subst hv7
  have HB67:Hid (Below w6.heap.size w6 w7):=Lib.hid ((zM _ _).grown hg (Nat.le_refl _) fun k e=>by cases e)
  have HO7:=Lib.hid hown
  have HG7:=Lib.hid (HG6.out.keep HB67.out)
  clear hown hg hat
  have z7:=HG7.out.frozen 3
  have g3:=HG7.out.cell 3
  simp only [zA,zB,zC] at g3
  go_upto_region 10 with fail
  have HSG:Hid (SG w5 (w7.setCell ⟨w5.heap.size,3,none⟩ (.slice A7 f.clauses.length c7)) f (B:Int) (.slice Aa f.atoms.length ca) w5.heap.size A7 c7 vs' []):=by
   have hvl:=HVL.out
   have hb5:Below w5.heap.size w5 (w7.setCell ⟨w5.heap.size,3,none⟩ (.slice A7 f.clauses.length c7)):=(HB6.out.trans (HB67.out.mono (by omega))).setCell (Nat.le_refl _) _
   refine Lib.hid (SG.start ?_ ?_ hvl (fun j u xs h1 h2=>((HVS.out j u xs h1 h2).intsO (P:=fun b=>b<w5.heap.size) fun b hb=>hb).keep hb5) hb5)
   ·rw [hvl];exact HG7.out.set_ 3 _
   ·rw [hvl];have:=HO7.out.kept (wP w7 w5.heap.size 3 (.slice A7 f.clauses.length c7)) (bM HO7.out (by omega));exact this
  generalize w7.setCell ⟨w5.heap.size,3,none⟩ (.slice A7 f.clauses.length c7)=w8 at *
  have hvl8:f.clauses.length=vs'.length:=HVL.out.symm
  rw [hvl8]
  clear z7 g3 HG7 HO7 HB67 HRD HVS HON HF6 HBK6 HBX6 HVL hgk HS6 HG6 HB6 q0 q1 q2 q3
  have HVN:=Lib.hid hvl8
  clear hvl8
  have HSTR:Hid (∃A c,A=A7∧c=c7):=Lib.hid ⟨_,_,rfl,rfl⟩
  go_wp2_with fail
  go_loopw [57] (fun i wr=>∃(k:Nat) (A:Option Addr) (c:Nat) (us:List Value) (nw:List Int),k≤ms.length∧i = .int .i64 (k:Int)∧Hid (SG w5 wr f (B:Int) (.slice Aa f.atoms.length ca) w5.heap.size A c us nw∧nw.length≤k∧us.length=f.clauses.length+nw.length)) (fun i _=>ms.length-(intOf i).toNat)
  case atStart=>exact ⟨0,A7,c7,vs',[],zR _,rfl,Lib.hid ⟨HSG.out,Nat.le_refl _,HVN.out.symm⟩⟩
  case round =>
   obtain ⟨k,A,c2,us,nw,hk,rfl,HR⟩:=hrel
   by_cases hlt:k<ms.length
   ·obtain ⟨x,hx⟩:∃x,ms[k]? = some x:=⟨_,List.getElem?_eq_getElem hlt⟩
    obtain ⟨A',c',hv', -, -,hx8,hrd⟩:=HMS5.out.keep HR.out.1.bl
    injection hv' with e1 e9 e3
    clear e9
    subst e1 e3
    obtain ⟨b1,o1,rfl,hb1,qx⟩:=hrd.at_ (k:=k) (u := .int .u8 x) (by rw [List.getElem?_map,hx];rfl)
    have hxr:=hx8 x (List.mem_of_getElem? hx)
    have hxr1:=hxr.1
    have hxr2:=hxr.2
    obtain ⟨m,hm⟩:∃m:Nat,x.tmod (B:Int)=(m:Int):=⟨(x.tmod (B:Int)).toNat,by have:=Int.tmod_nonneg (B:Int) hxr1;omega⟩
    have hmB:m<B:=by have:=Int.tmod_lt_of_pos x (b:=(B:Int)) (by omega);omega
    have yB:¬((B:Int)=0):=by omega
    have HKL:=Lib.hid (And.intro hk hlt)
    clear hx hrd hx8 hb1 hxr
    by_cases h5:k<5
    ·have y6:decide ((k:Int)<5)=true:=by simp;omega
     have y6b:(k:Int)<5:=by omega
     have HOKX:Hid (bC f.bools (1+(m:Int))=true):=Lib.hid (by rw [hB];exact bB.2 ⟨by omega,by omega,by omega⟩)
     have HXI:Hid (I64 (1+(m:Int))):=Lib.hid (by constructor<;>omega)
     have HN5:Hid (nw.length<5):=Lib.hid (by have:=HR.out.2.1;omega)
     have hu45:us.length≤45:=by have:=HR.out.2.2;have:=HN5.out;omega
     have s3:=HR.out.1.b.cell 3
     simp only [zA,zB,zC] at s3
     have q1:=(HBK5.out.keep HR.out.1.bl).cell 1
     simp only [zA,zB,zC] at q1
     have hbk:bk<w5.heap.size:=HBK5.out.lt
     have HSZ:Hid (w5.heap.size+1≤wr.heap.size):=Lib.hid HR.out.1.b.lt
     have HO1:Hid (∀u∈([.slice (some ⟨wr.heap.size,0,none⟩) 1 1]:List Value),u.oneCell'=true):=Lib.hid (by intro u hu;rw [zI.1 hu];rfl)
     have HM1:Hid (us.length+1≤maxLen):=by refine Lib.hid ?_;unfold maxLen;omega
     have HM2:Hid ((us.length+1) * 24≤140737488355328):=by refine Lib.hid ?_;omega
     have HM3:Hid (w5.heap.size+1≤((wr.alloc (.cells #[.int .i64 (1+(m:Int))] 3)).alloc (.cells #[.slice (some ⟨wr.heap.size,0,none⟩) 1 1] 33)).heap.size):=Lib.hid (by have:=HSZ.out;simp;omega)
     have HN:Hid (∀j u,([.slice (some ⟨wr.heap.size,0,none⟩) 1 1]:List Value)[j]? = some u→((wr.alloc (.cells #[.int .i64 (1+(m:Int))] 3)).alloc (.cells #[.slice (some ⟨wr.heap.size,0,none⟩) 1 1] 33)).cell? ((⟨wr.heap.size+1,0,none⟩:Addr).add j)=some u):=Lib.hid (gQ (wr.alloc (.cells #[.int .i64 (1+(m:Int))] 3)) _ [.slice (some ⟨wr.heap.size,0,none⟩) 1 1] (by simp))
     have HOW:Hid (((wr.alloc (.cells #[.int .i64 (1+(m:Int))] 3)).alloc (.cells #[.slice (some ⟨wr.heap.size,0,none⟩) 1 1] 33)).ownsRow (w5.heap.size+1) 33 1 (.slice A us.length c2) us.length us):=Lib.hid ((HR.out.1.m.1.alloc _).alloc _)
     have z2:IntKind.i64.wrap x=x:=qI _ (by omega)
     have z3:IntKind.i64.wrap (m:Int)=(m:Int):=qI _ (by omega)
     have yB2:¬(B=0):=by omega
     have z1:IntKind.i64.wrap (1+(m:Int))=1+(m:Int):=qI _ (by omega)
     have s3a:=(HR.out.1.b.alloc (.cells #[.int .i64 (1+(m:Int))] 3)).cell 3
     have s3b:=((HR.out.1.b.alloc (.cells #[.int .i64 (1+(m:Int))] 3)).alloc (.cells #[.slice (some ⟨wr.heap.size,0,none⟩) 1 1] 33)).cell 3
     have q1a:=((HBK5.out.keep HR.out.1.bl).alloc (.cells #[.int .i64 (1+(m:Int))] 3)).cell 1
     have q1b:=(((HBK5.out.keep HR.out.1.bl).alloc (.cells #[.int .i64 (1+(m:Int))] 3)).alloc (.cells #[.slice (some ⟨wr.heap.size,0,none⟩) 1 1] 33)).cell 1
     simp only [zA,zB,zC] at s3a s3b q1a q1b
     clear h5
     go_upto_region 14 with fail
     go_region_law (refine wR rfl (.tmp 65) (.tmp 73) 27 rfl (w5.heap.size+1) 33 iS (.slice none 0 0) 1 24 Try.underlying27 hiS hzS0 hzS1 hzS2 rfl (by decide) (.slice A us.length c2) us.length us (by simp [Act.eval]) HOW.out.drew ⟨wr.heap.size+1,0,none⟩ 1 1 [.slice (some ⟨wr.heap.size,0,none⟩) 1 1] (by simp [Act.eval]) rfl HN.out HO1.out HM1.out HM2.out HM3.out ?_;intro v9 w9 hown hg hat;obtain ⟨A9,c9,hv9,hb9,hsg9⟩:=HR.out.1.push HOKX.out HXI.out HN5.out hown (show ((wr.alloc _).alloc _).grownBy w9 _ from ⟨hg.os,hg.tape,hg.output,hg.size,hg.block⟩) hat;subst hv9;have HSG9:=Lib.hid hsg9;have s9:=hb9.cell 3;have f9:=hb9.frozen 3;simp only [zA,zB,zC] at s9;clear hsg9 hb9 hown hg hat)
     all_goals
      have HR9:Hid (SG w5 (w9.setCell ⟨w5.heap.size,3,none⟩ (.slice A9 (us.length+1) c9)) f (B:Int) (.slice Aa f.atoms.length ca) w5.heap.size A9 c9 (us++[.slice (some ⟨wr.heap.size,0,none⟩) 1 1]) (nw++[1+(m:Int)])∧(nw++[1+(m:Int)]).length≤k+1∧(us++[Value.slice (some ⟨wr.heap.size,0,none⟩) 1 1]).length=f.clauses.length+(nw++[1+(m:Int)]).length):=Lib.hid ⟨HSG9.out,by have:=HR.out.2.1;simp;omega,by have:=HR.out.2.2;simp;omega⟩
      clear s3 q1 s3a s3b q1a q1b z1 z2 z3 s9 f9 HSG9 HR HN HOW
      go_wp2_with fail
      have hlt:=HKL.out.2
      go_roundw
      case rel=>exact ⟨k+1,A9,c9,_,_,by omega,by go_num,HR9⟩
      case measure=>simp [intOf];omega
    ·have y6:decide ((k:Int)<5)=false:=by simp;omega
     have y6b:¬((k:Int)<5):=by omega
     have HR9:Hid (SG w5 wr f (B:Int) (.slice Aa f.atoms.length ca) w5.heap.size A c2 us nw∧nw.length≤k+1∧us.length=f.clauses.length+nw.length):=Lib.hid ⟨HR.out.1,Nat.le_succ_of_le HR.out.2.1,HR.out.2.2⟩
     clear HR h5
     go_wp2_with fail
     have hlt:=HKL.out.2
     go_roundw
     case rel=>exact ⟨k+1,A,c2,us,nw,by omega,by go_num,HR9⟩
     case measure=>simp [intOf];omega
   ·obtain rfl:k=ms.length:=by omega
    have yk:¬(ms.length<ms.length):=by omega
    obtain ⟨wx,hwx⟩:∃wx,wx=wr:=⟨_,rfl⟩
    rw [←hwx] at HR ⊢
    clear hwx
    have HGB:=Lib.hid HR.out.1.b
    have HBX:=Lib.hid (HB5.out.trans (HR.out.1.bl.mono HB5.out.size))
    have hnl:nw.length≤5:=HR.out.1.n
    have HVG:Hid (validF (f.withC (f.clauses++nw.map fun x=>[x]))=0):=Lib.hid (lN HV.out (by simp;omega) fun c hc=>by
     rcases zK.1 hc with h|h
     ·exact (gY HV.out).2.2.2.2.2.2.2 c h
     ·obtain ⟨x,hx,rfl⟩:=List.mem_map.1 h
      intro y hy
      rw [zI.1 hy]
      exact HR.out.1.ok x hx)
    have HCG:Hid (∀c∈(f.withC (f.clauses++nw.map fun x=>[x])).clauses,c.length≤200000):=Lib.hid fun c hc=>by
     rcases zK.1 hc with h|h
     ·exact HCC.out c h
     ·obtain ⟨x, -,rfl⟩:=List.mem_map.1 h
      simp
    have HFG:Hid (IsForm wx (.agg #[.int .i64 f.ints, .int .i64 (B:Int), .slice Aa f.atoms.length ca, .slice A us.length c2]) (f.withC (f.clauses++nw.map fun x=>[x]))):=Lib.hid (by rw [←hB];exact ⟨_,_,rfl,HI12.out.1,HI12.out.2,HAD.out.keep HR.out.1.bl,HR.out.1.m.mat⟩)
    clear hnl HR
    have g0:=HGB.out.cell 0
    have g1:=HGB.out.cell 1
    have g2:=HGB.out.cell 2
    have g3:=HGB.out.cell 3
    simp only [zA,zB,zC] at g0 g1 g2 g3
    obtain ⟨o2,hg2,hc2⟩:=bS HVG.out (show (f.withC _).bools=(B:Int) from hB) (by omega) HCG.out _ _ HFG.out
    have HG2:=Lib.hid hg2
    have HC2:=Lib.hid hc2
    clear hg2 hc2
    go_wp2_with fail
    refine HC2.out.mono ?_
    rintro e w11 ⟨m2,m3,lv2,rfl,hv11,hb11⟩
    have eo:o2.isLeft=false:=solve_more HGO.out HVG.out (fun c hc=>qN _ hc) hv11
    rw [eo]
    obtain ⟨An2,nn2,cn2,Ax2,nx2,cx2,rfl,rfl⟩:=hv11.shape
    have HBY:=Lib.hid (HBX.out.trans (hb11.mono HBX.out.size))
    have HBZ:=Lib.hid (HBY.out.trans ((show Below w11.heap.size w11 (w11.alloc (.cells #[.slice An2 nn2 cn2, .slice Ax2 nx2 cx2] 35)) from (zM _ _).alloc (Nat.le_refl _) _).mono HBY.out.size))
    clear hv11 hb11 g0 g1 g2 g3
    go_upto_region 17 with fail
    generalize w11.alloc (.cells #[.slice An2 nn2 cn2, .slice Ax2 nx2 cx2] 35)=w12 at *
    go_wp2_with fail
    refine (eW _).mono ?_
    rintro e w13 ⟨rfl,hb13⟩
    have HB13:=Lib.hid (HBZ.out.trans (hb13.mono HBZ.out.size))
    clear hb13
    go_wp2_with fail
    go_ret
    exact ⟨rfl,HB13.out⟩
end Go.Proofs.Yticieifacalocaa
