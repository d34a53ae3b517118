/- SolAdd StepCall SolAgr -/
import Derived.Test.YticieifacalocaaTSH23
import Derived.Laws.EntriesVeiled
import Derived.StillTailTactics
namespace Go.Proofs.Yticieifacalocaa
open Go.RowKit
theorem mV:(Try.prog.info? 94).map (fun i=>(i.zero,i.size,i.bytes))=some (some (.agg #[.int .i64 0, .int .i64 0, .slice none 0 0, .int .i64 0, .int .i64 0, .int .i64 0, .int .i64 0, .slice none 0 0]),8,96):=by kernel_rfl
theorem fJ:(Try.prog.info? 115).map (fun i=>(i.zero,i.size,i.bytes))=some (some (.agg #[.int .i64 0, .int .i64 0]),2,16):=by kernel_rfl
theorem pX:(Try.prog.info? 126).map (fun i=>(i.zero,i.size,i.bytes))=some (some (.agg #[.int .i64 0, .int .i64 0, .int .i64 0, .int .i64 0]),4,32):=by kernel_rfl
def Org.val (o:Org) (p:Value × Value):Value := .agg #[.int .i64 o.leaf.kind, .int .i64 o.leaf.index,p.1, .int .i64 o.leaf.p, .int .i64 o.leaf.q, .int .i64 o.leaf.var, .int .i64 (o.first:Int),p.2]
def lM:Col→Prop
 | .slv | .cls | .org=>True
 | _=>False
section
variable {κ:Kap} {w:World} {g:Nat} {s:Sol} {V:EV} {U:SV}
set_option maxRecDepth 100000 in
set_option maxHeartbeats 4000000 in
theorem iG (h:SolM κ w g s V U) {xs:List Int} {vx:Value} {o:Org} {p:Value × Value} (hx:Hold κ w (.cl s.e.cls.length) 3 1 vx xs.length (ci xs)) (h1:Hold κ w (.olt s.org.length) 3 1 p.1 o.leaf.lits.length (ci o.leaf.lits)) (h2:Hold κ w (.och s.org.length) 115 2 p.2 o.chain.length (aC o.chain))
  (hc:s.e.cls.length<LIM) (ho:s.org.length<LIM) :
  Calls Try.prog 66 #[.pointer (some ⟨g,0,none⟩),vx,o.val p] w (wP κ w g U lM (.int .i64 (s.e.cls.length:Int)) { s with e:={ s.e with cls:=s.e.cls++[xs] },org:=s.org++[o] }):=by
 obtain ⟨iC,hiC,hzC0,hzC1,hzC2⟩:=qD aM
 obtain ⟨iO,hiO,hzO0,hzO1,hzO2⟩:=qD mV
 obtain ⟨p1,p2⟩:=p
 obtain ⟨A1,c1,rfl, -, -⟩:=h1.shape
 obtain ⟨A2,c2,rfl, -, -⟩:=h2.shape
 obtain ⟨Ax,cx,rfl, -, -⟩:=hx.shape
 obtain ⟨Ac,cc,hvc, -, -⟩:=h.eng.cls.shape
 obtain ⟨Ao,co,hvo, -, -⟩:=h.org.shape
 unfold LIM at hc ho
 have HLC:Hid (s.e.cls.length<1099511627776):=Lib.hid hc
 have H63:Hid (s.e.cls.length+1≤maxLen):=by refine Lib.hid ?_;unfold maxLen;omega
 have HBY:Hid ((s.e.cls.length+1) * 24≤140737488355328):=by refine Lib.hid ?_;omega
 have H63b:Hid (s.org.length+1≤maxLen):=by refine Lib.hid ?_;unfold maxLen;omega
 have HBYb:Hid ((s.org.length+1) * 96≤140737488355328):=by refine Lib.hid ?_;omega
 have HF1:Hid (Fr κ (kset κ w.heap.size (.tmp 0)) w (w.alloc (.cells #[.int .i64 o.leaf.kind, .int .i64 o.leaf.index, .slice A1 o.leaf.lits.length c1, .int .i64 o.leaf.p, .int .i64 o.leaf.q, .int .i64 o.leaf.var, .int .i64 (o.first:Int), .slice A2 o.chain.length c2] 94)) lM):=Lib.hid (Fr.make _ _ _ _ _)
 have HS1:Hid (SolM (kset κ w.heap.size (.tmp 0)) (w.alloc (.cells #[.int .i64 o.leaf.kind, .int .i64 o.leaf.index, .slice A1 o.leaf.lits.length c1, .int .i64 o.leaf.p, .int .i64 o.leaf.q, .int .i64 o.leaf.var, .int .i64 (o.first:Int), .slice A2 o.chain.length c2] 94)) g s V U):=Lib.hid (h.fr (Fr.make κ w _ (.tmp 0) fun _=>False) fun _ _=>id)
 have HB1:=Lib.hid (HB.new κ w (.tmp 0) #[.int .i64 o.leaf.kind, .int .i64 o.leaf.index, .slice A1 o.leaf.lits.length c1, .int .i64 o.leaf.p, .int .i64 o.leaf.q, .int .i64 o.leaf.var, .int .i64 (o.first:Int), .slice A2 o.chain.length c2] 94)
 have HX:=Lib.hid (hx.fr HF1.out id)
 have HH1:=Lib.hid (h1.fr HF1.out id)
 have HH2:=Lib.hid (h2.fr HF1.out id)
 have HVC:=Lib.hid hvc
 have HVO:=Lib.hid hvo
 unfold Org.val
 clear h hx h1 h2 hc ho hvc hvo
 go_enter Try.func66,Try.ntmps66
 go_upto_region 1 with fail
 generalize w.alloc (.cells #[.int .i64 o.leaf.kind, .int .i64 o.leaf.index, .slice A1 o.leaf.lits.length c1, .int .i64 o.leaf.p, .int .i64 o.leaf.q, .int .i64 o.leaf.var, .int .i64 (o.first:Int), .slice A2 o.chain.length c2] 94)=W1 at *
 generalize kset κ w.heap.size (.tmp 0)=κ1 at *
 generalize w.heap.size=gb at *
 have q0:=HS1.out.eng.cellE (i:=0) rfl
 rw [HVC.out] at q0
 have HOC:Hid (W1.ownsRow 0 33 1 (.slice Ac s.e.cls.length cc) s.e.cls.length V.us):=by refine Lib.hid ?_;rw [←HVC.out];exact HS1.out.eng.cls.o
 go_wp2_with (at_builtin;refine zW _ rfl _ _ 27 rfl 0 33 iC (.slice none 0 0) 1 24 Try.underlying27 hiC hzC0 hzC1 hzC2 rfl (by decide) _ _ _ rfl (HOC.out.alloc _) ⟨W1.heap.size,0,none⟩ 1 1 [.slice Ax xs.length cx] rfl rfl (wR W1 _ _) ?a2 H63.out HBY.out (zQ _) ?_)
 case a2=>first|rfl|(intro u hu;simp at hu;subst hu;rfl)
 intro v' w5 hown hgrow _ hat
 rw [←HVC.out] at hgrow hat
 obtain ⟨κ3,hb5,hE5, -,hf5⟩:=HS1.out.eng.pushCls HX.out hown hgrow (by simpa using hat)
 obtain ⟨A5,c5,hv5, -, -⟩:=wB hown
 subst hv5
 have z0:=hb5.frozen 0
 have q0b:=hb5.cell 0
 simp only [EV.cells,qT,zA,zB] at q0b
 have hS5:=HS1.out.withE hf5 (fun c hc=>by rcases hc with rfl|rfl<;>trivial) hE5 rfl
 have HS5:=Lib.hid hS5
 have HF5:=Lib.hid hf5
 have HB5:=Lib.hid (HB1.out.fr hf5 (by simp))
 have HH1b:=Lib.hid (HH1.out.fr hf5 (by simp))
 have HH2b:=Lib.hid (HH2.out.fr hf5 (by simp))
 clear hown hgrow hat hb5 hE5 hf5 hS5 q0 HOC HS1 HVC H63 HBY HB1 HX HH1 HH2
 go_upto_region 2 with fail
 generalize w5.setCell ⟨g,0,none⟩ (.slice A5 (s.e.cls.length+1) c5)=W6 at *
 clear q0b z0
 have q17:=HS5.out.eng.cellR (i:=8) rfl
 have q17a:=(HS5.out.alloc (.cells #[.int .i64 o.leaf.kind, .int .i64 o.leaf.index, .slice A1 o.leaf.lits.length c1, .int .i64 o.leaf.p, .int .i64 o.leaf.q, .int .i64 o.leaf.var, .int .i64 (o.first:Int), .slice A2 o.chain.length c2] 94)).eng.cellR (i:=8) rfl
 simp only [Nat.reduceAdd] at q17 q17a
 rw [HVO.out] at q17 q17a
 have b0:=HB5.out.cell 0
 have b1:=HB5.out.cell 1
 have b2:=HB5.out.cell 2
 have b3:=HB5.out.cell 3
 have b4:=HB5.out.cell 4
 have b5:=HB5.out.cell 5
 have b6:=HB5.out.cell 6
 have b7:=HB5.out.cell 7
 simp only [zA,zB,zC] at b0 b1 b2 b3 b4 b5 b6 b7
 have HOW:Hid ((W6.alloc (.cells #[.int .i64 o.leaf.kind, .int .i64 o.leaf.index, .slice A1 o.leaf.lits.length c1, .int .i64 o.leaf.p, .int .i64 o.leaf.q, .int .i64 o.leaf.var, .int .i64 (o.first:Int), .slice A2 o.chain.length c2] 94)).drew.ownsRow 0 94 8 (.slice Ao s.org.length co) s.org.length (orgs s.org U.ol)):=by
  refine Lib.hid ?_
  have:=((HS5.out.alloc (.cells #[.int .i64 o.leaf.kind, .int .i64 o.leaf.index, .slice A1 o.leaf.lits.length c1, .int .i64 o.leaf.p, .int .i64 o.leaf.q, .int .i64 o.leaf.var, .int .i64 (o.first:Int), .slice A2 o.chain.length c2] 94)).drewN 1).org.o
  rw [HVO.out] at this
  exact this
 have HOC:Hid (∀u∈([.int .i64 o.leaf.kind, .int .i64 o.leaf.index, .slice A1 o.leaf.lits.length c1, .int .i64 o.leaf.p, .int .i64 o.leaf.q, .int .i64 o.leaf.var, .int .i64 (o.first:Int), .slice A2 o.chain.length c2]:List Value),u.oneCell'=true):=Lib.hid (by intro u hu;simp at hu;rcases hu with rfl|rfl|rfl|rfl|rfl|rfl|rfl|rfl<;>rfl)
 have HCA:=Lib.hid (wY W6 94 [.int .i64 o.leaf.kind, .int .i64 o.leaf.index, .slice A1 o.leaf.lits.length c1, .int .i64 o.leaf.p, .int .i64 o.leaf.q, .int .i64 o.leaf.var, .int .i64 (o.first:Int), .slice A2 o.chain.length c2] rfl)
 have HKEY:Hid (∀v' w2,w2.ownsRow 0 94 8 v' (s.org.length+1) (orgs s.org U.ol++[.int .i64 o.leaf.kind, .int .i64 o.leaf.index, .slice A1 o.leaf.lits.length c1, .int .i64 o.leaf.p, .int .i64 o.leaf.q, .int .i64 o.leaf.var, .int .i64 (o.first:Int), .slice A2 o.chain.length c2])→(W6.alloc (.cells #[.int .i64 o.leaf.kind, .int .i64 o.leaf.index, .slice A1 o.leaf.lits.length c1, .int .i64 o.leaf.p, .int .i64 o.leaf.q, .int .i64 o.leaf.var, .int .i64 (o.first:Int), .slice A2 o.chain.length c2] 94)).drew.grownBy w2 (Value.slice Ao s.org.length co).ownBlock→(v'.ownBlock=(Value.slice Ao s.org.length co).ownBlock∨v'.ownBlock=some (W6.alloc (.cells #[.int .i64 o.leaf.kind, .int .i64 o.leaf.index, .slice A1 o.leaf.lits.length c1, .int .i64 o.leaf.p, .int .i64 o.leaf.q, .int .i64 o.leaf.var, .int .i64 (o.first:Int), .slice A2 o.chain.length c2] 94)).drew.heap.size) →
   w2.frozen? ⟨g,17,none⟩=false∧w2.cell? ⟨g,17,none⟩=some (.slice Ao s.org.length co)∧wP κ w g U lM (.int .i64 (s.e.cls.length:Int)) { s with e:={ s.e with cls:=s.e.cls++[xs] },org:=s.org++[o] } (.returned (.int .i64 (s.e.cls.length:Int))) (w2.setCell ⟨g,17,none⟩ v')):=by
  refine Lib.hid fun v' w2 k1 k2 k3 => ?_
  have f6:=(Fr.alloc κ3 W6 (.cells #[.int .i64 o.leaf.kind, .int .i64 o.leaf.index, .slice A1 o.leaf.lits.length c1, .int .i64 o.leaf.p, .int .i64 o.leaf.q, .int .i64 o.leaf.var, .int .i64 (o.first:Int), .slice A2 o.chain.length c2] 94) (fun c=>c = .org)).trans (Fr.drew κ3 _ _)
  have h6:=(HS5.out.alloc (.cells #[.int .i64 o.leaf.kind, .int .i64 o.leaf.index, .slice A1 o.leaf.lits.length c1, .int .i64 o.leaf.p, .int .i64 o.leaf.q, .int .i64 o.leaf.var, .int .i64 (o.first:Int), .slice A2 o.chain.length c2] 94)).drewN 1
  have ho:=h6.org
  rw [HVO.out] at ho
  obtain ⟨κ4,j1,j2⟩:=ho.app (S:=fun c=>c = .org) k1 k2 k3 rfl
  have f7:=f6.trans j2
  obtain ⟨r1,r2⟩:=HS5.out.pushOrg f7 (o:=o) (p:=(.slice A1 o.leaf.lits.length c1, .slice A2 o.chain.length c2)) j1 (HH1b.out.fr f7 (by simp)) (HH2b.out.fr f7 (by simp))
  have hb:=HS5.out.eng.blk.fr f7 (by simp)
  refine ⟨hb.frozen 17,?_,rfl,κ4,_,_,r1,HF1.out.trans ((HF5.out.mono fun c hc=>by rcases hc with rfl|rfl<;>trivial).trans (r2.mono fun c hc=>by rcases hc with rfl|rfl<;>trivial)),rfl,rfl,rfl,rfl,rfl,rfl,rfl,rfl,rfl⟩
  rw [hb.cell 17]
  have:=HS5.out.eng.cellR (i:=8) rfl
  rw [HS5.out.eng.blk.cell] at this
  rw [←HVO.out]
  exact this
 go_region_law (refine jZ rfl (.tmp 23) (.tmp 25) 87 rfl 0 94 iO (.agg #[.int .i64 0, .int .i64 0, .slice none 0 0, .int .i64 0, .int .i64 0, .int .i64 0, .int .i64 0, .slice none 0 0]) 8 96 Try.underlying87 hiO hzO0 hzO1 hzO2 rfl (by decide) (.slice Ao s.org.length co) s.org.length (orgs s.org U.ol) (by simp [Act.eval]) HOW.out ⟨W6.heap.size,0,none⟩ 1 1 [.int .i64 o.leaf.kind, .int .i64 o.leaf.index, .slice A1 o.leaf.lits.length c1, .int .i64 o.leaf.p, .int .i64 o.leaf.q, .int .i64 o.leaf.var, .int .i64 (o.first:Int), .slice A2 o.chain.length c2] (by simp [Act.eval]) rfl HCA.out HOC.out H63b.out HBYb.out (zQ _) ?_;intro v' w2 hown hg hat;obtain ⟨A',c',hv', -, -, -⟩:=wB hown;subst hv';obtain ⟨z17,y17,hfin⟩:=HKEY.out _ w2 hown hg hat;have HFIN:=Lib.hid hfin;clear hown hg hat hfin)
 all_goals
  clear q17 q17a z17 y17 b0 b1 b2 b3 b4 b5 b6 b7
  generalize w2.setCell ⟨g,17,none⟩ (.slice A' (s.org.length+1) c')=W9 at *
  obtain ⟨-,κ9,V9,U9,hS9, -, -⟩:=HFIN.out
  obtain ⟨A9,c9,h9, -, -⟩:=hS9.eng.cls.shape
  have q0:=hS9.eng.cellE (i:=0) rfl
  rw [h9] at q0
  simp only [zJ,qQ] at q0
  have y1:=HLC.out
  clear hS9 h9
  go_wp2_with fail
  go_ret
  exact HFIN.out
end
theorem wC {P:Program} {ops:Array Oper} {o:Oper} {a:Act} {w:World} {K:Act→World→Prop} {Q:Exit→Act→World→Prop} {E:Prop} (hgd:o.guard=none) (f:FuncId) (xs:Array Operand) (ats:Array TypeId)
  (ho : o.op = .call { callee := .value (.func f), args := xs, argTypes := ats }) (fn : Func) (hf : P.funcs[f]? = some fn) (hname : (fn.name == "runtime.NumGoroutine") = false) (hb : fn.body.isNone = false)
  (vals:Array Value) (hx:xs.map a.eval=vals) {R:Ending→World→Prop} (hc:Calls P f vals w R) (hr:∀e w',R e w'→∃v,e = .returned v) (h:∀v w',R (.returned v) w'→K (a.put o.dst v) w') :
  if Region.wanted o (yielded ops a.tmps)=true then Oper.wp P o a w K Q else E:=by
 have hw:Region.wanted o (yielded ops a.tmps)=true:=by simp [Region.wanted,hgd]
 rw [if_pos hw]
 obtain ⟨dst,op,ty,pos,af,gd⟩:=o
 simp only at ho
 subst ho
 have he:(execOp a.eval { dst,op := .call { callee := .value (.func f),args:=xs,argTypes:=ats },type:=ty,pos,after:=af,guard:=gd }).run P w = .ok (.enter f vals) w:=by
  have e1:execOp a.eval { dst,op := .call { callee := .value (.func f),args:=xs,argTypes:=ats },type:=ty,pos,after:=af,guard:=gd }=callFunc f (#[]++xs.map a.eval ++ #[]):=rfl
  rw [e1,hx]
  have n1 : ¬ fn.name = "runtime.NumGoroutine" := by simpa using hname
  have n2:¬fn.body=none:=by intro e;rw [e] at hb;simp at hb
  simp [callFunc,go_sem,hf]
  rw [if_neg n1,if_neg n2]
 unfold Oper.wp
 rw [he]
 rw [Oper.upon_enter]
 refine hc.mono fun e w' hR => ?_
 obtain ⟨v,rfl⟩:=hr e w' hR
 exact h v w' hR
def DU (κ:Kap) (w:World) (av:Value) (ds:List Diff):Prop:=∃w0:World,Diffs w0 av ds∧Below w0.heap.size w0 w∧∀k,k<w0.heap.size→κ k=none
section
variable {κ κ':Kap} {w w':World} {g:Nat} {s:Sol} {V:EV} {U:SV} {av:Value} {ds:List Diff} {S:Col→Prop}
theorem DU.diffs (h:DU κ w av ds):Diffs w av ds:=by obtain ⟨w0,h1,h2,_⟩:=h;exact h1.keep h2
theorem DU.fr (h:DU κ w av ds) (f:Fr κ κ' w w' S):DU κ' w' av ds:=by
 obtain ⟨w0,h1,h2,h3⟩:=h
 exact ⟨w0,h1,h2.trans (f.below h2.size h3),fun k hk=>(f.ext k (zZ hk h2.size)).trans (h3 k hk)⟩
theorem eG {xs:List Int} {k:Nat} (h:k<xs.length):xs[k]? = some (gi xs (k:Int)):=by
 unfold gi;rw [Int.toNat_natCast];exact getD_at h
theorem aF {x:Int} (h:iK x=true) : -1152921504606846976≤x∧x≤1152921504606846976:=kP h
theorem bO {B:Nat} {w w':World} (h:Below B w w') (n:Nat):Below B w (w'.drewN n):=h.trans ⟨rfl,rfl,rfl,Nat.le_refl _,fun _ _=>rfl⟩
set_option maxRecDepth 100000 in
set_option maxHeartbeats 2000000 in
theorem sD (h:SolM κ w g s V U) {x y:Nat} {c:Int} (hx:x<s.num.length) (hy:y<s.num.length) (rx:iK (gi s.num x)=true) (ry:iK (gi s.num y)=true) :
  Calls Try.prog 81 #[.pointer (some ⟨g,10,none⟩), .agg #[.int .i64 x, .int .i64 y, .int .i64 c]] w fun en w'=>en = .returned (.bool (decide (gi s.num x-gi s.num y≤c)))∧Below w.heap.size w w':=by
 have h1:=h.alloc (.cells #[.int .i64 x, .int .i64 y, .int .i64 c] 50)
 obtain ⟨gn,cap,hvn, -, -,hcap,hcm,hcc, -⟩:=h1.num.open_ (by omega)
 have q10:=h1.eng.cellR (i:=1) rfl
 simp only [Nat.reduceAdd] at q10
 rw [hvn] at q10
 have qx:=hcc x _ (wU (eG hx))
 have qy:=hcc y _ (wU (eG hy))
 obtain ⟨r1,r2⟩:=aF rx
 obtain ⟨r3,r4⟩:=aF ry
 generalize gi s.num x=nx at *
 generalize gi s.num y=ny at *
 have HB:=Lib.hid (((zR w.heap.size w).alloc (Nat.le_refl _) (.cells #[.int .i64 x, .int .i64 y, .int .i64 c] 50)))
 have b0:=(Blk.new w 50 #[.int .i64 x, .int .i64 y, .int .i64 c]).cell 0
 have b1:=(Blk.new w 50 #[.int .i64 x, .int .i64 y, .int .i64 c]).cell 1
 have b2:=(Blk.new w 50 #[.int .i64 x, .int .i64 y, .int .i64 c]).cell 2
 simp only [zA,zB,zC] at b0 b1 b2
 have y1:(x:Int)<(s.num.length:Int):=by omega
 have y2:(y:Int)<(s.num.length:Int):=by omega
 generalize s.num.length=N at *
 unfold maxLen at hcm
 clear h h1 hcc rx ry hvn
 go_enter Try.func81,Try.ntmps81
 go_upto_region 1 with fail
 generalize w.alloc (.cells #[.int .i64 x, .int .i64 y, .int .i64 c] 50)=W1 at *
 go_region
 go_wp2_with fail
 go_ret
 exact ⟨rfl,bO HB.out 1⟩
def lH:Col→Prop
 | .act | .arcs | .ar _=>True
 | _=>False
def remF (ds:List Diff) (s:Sol) (lit:Int):Sol :=
 { s with
  act:=if s.act.getD (vr lit) false=true then s.act.set (vr lit) false else s.act
  arcs:=if s.act.getD (vr lit) false=true then (match bound ds lit with
   | some d=>s.arcs.set d.y.toNat (s.arcs.getD d.y.toNat []).dropLast
   | none=>s.arcs) else s.arcs }
theorem acs_len (l:List Arc):(acs l).length=l.length * 4:=by
 unfold acs
 induction l with
 | nil=>rfl
 | cons a r ih=>rw [xT,zJ,ih];simp [Arc.cells];omega
theorem oC (l m:List Arc):acs (l++m)=acs l++acs m:=by simp [acs]
theorem acs_drop (l:List Arc):(acs l).take ((l.length-1) * 4)=acs l.dropLast:=by
 rcases List.eq_nil_or_concat l with rfl|⟨r,a,rfl⟩
 ·rfl
 ·rw [List.concat_eq_append,oC,jB,zJ,qQ,Nat.add_sub_cancel,←acs_len,xH]
theorem cb_at {xs:List Bool} {k:Nat} (h:k<xs.length):(cbs xs)[k]? = some (.bool (xs.getD k false)):=by
 unfold cbs;rw [List.getElem?_map,List.getD_eq_getElem?_getD,List.getElem?_eq_getElem h];rfl
theorem SolM.actAt (h:SolM κ w g s V U) {v:Nat} (hv:v<s.e.val.length):w.cell? ⟨U.gc,v,none⟩=some (.bool (s.act.getD v false)):=by
 rw [h.act.cell,zA];exact cb_at (by rw [h.actl];exact hv)
set_option maxRecDepth 100000 in
set_option maxHeartbeats 4000000 in
theorem rY (h:SolM κ w g s V U) {i j:Int} {cv:Value} (hd:DU κ w av ds) (hC:∀d∈ds, -9223372036854775807≤d.c) {lit:Int} (hl:litB s.e.val.length lit=true)
  (hb:s.act.getD (vr lit) false=true→∀d,bound ds lit=some d→∃y:Nat,d.y=y∧y<s.num.length∧0<(s.arcs.getD y []).length) :
  Calls Try.prog 84 #[.pointer (some ⟨g,10,none⟩), .agg #[.int .i64 i, .int .i64 j,av,cv], .int .i64 lit] w (wP κ w g U lH (.tuple #[]) (remF ds s lit)):=by
 obtain ⟨l0,l1⟩:=wN hl
 have hi:=wZ (by have:=h.eng.B;omega) hl
 have HV:Hid (∀W,Calls Try.prog 64 #[.int .i64 lit] W fun e w'=>e = .returned (.int .i64 (vr lit:Nat))∧W=w'):=fun W=>gI lit l0 hi.1 hi.2 W
 have HVD:Hid (∀m,Calls Try.prog 64 #[.int .i64 lit] ((w.alloc (.cells #[.int .i64 i, .int .i64 j,av,cv] 29)).drewN m) fun e w'=>e = .returned (.int .i64 (vr lit:Nat))∧w'=(w.alloc (.cells #[.int .i64 i, .int .i64 j,av,cv] 29)).drewN m):=fun m=>(gI lit l0 hi.1 hi.2 _).mono fun e w' hh=>⟨hh.1,hh.2.symm⟩
 have f1:=Fr.make κ w (.cells #[.int .i64 i, .int .i64 j,av,cv] 29) (.tmp 0) (fun _=>False)
 have HF:Hid (Fr κ (kset κ w.heap.size (.tmp 0)) w (w.alloc (.cells #[.int .i64 i, .int .i64 j,av,cv] 29)) lH):=Lib.hid (f1.mono fun _=>False.elim)
 have HS:=Lib.hid (h.fr f1 fun _ _=>id)
 have HD:=Lib.hid (hd.fr f1)
 have HB:=Lib.hid (HB.new κ w (.tmp 0) #[.int .i64 i, .int .i64 j,av,cv] 29)
 have HC:=Lib.hid hC
 have HBD:=Lib.hid hb
 have q12:=HS.out.eng.cellR (i:=3) rfl
 simp only [Nat.reduceAdd] at q12
 have qv:=HS.out.actAt l1
 have y3:((vr lit:Nat):Int)<(s.e.val.length:Int):=by omega
 clear h hd hC hb hl f1
 go_enter Try.func84,Try.ntmps84
 go_upto_region 1 with fail
 generalize w.alloc (.cells #[.int .i64 i, .int .i64 j,av,cv] 29)=W1 at *
 generalize kset κ w.heap.size (.tmp 0)=κ1 at *
 generalize w.heap.size=gb at *
 generalize hab:s.act.getD (vr lit) false=ab at *
 have HA:=Lib.hid hab
 clear hab
 go_quiet ((go_at_call 64;exact vW (HVD.out _)))
 cases ab with
 | false =>
  go_wp2_with fail
  go_end0
  refine ⟨rfl,κ1,V,U,?_,HF.out.trans (Fr.drewN _ _ _ _), .refl U⟩
  unfold remF
  rw [HA.out]
  simp only [xO,jR]
  exact HS.out.drewN _
 | true =>
  have HS2:=Lib.hid (HS.out.drewN nq)
  have HF2:=Lib.hid (HF.out.trans (Fr.drewN κ1 W1 nq lH))
  have HD2:=Lib.hid (HD.out.fr (Fr.drewN κ1 W1 nq lH))
  have HB2:=Lib.hid (HB.out.fr (Fr.drewN κ1 W1 nq lH) id)
  clear HS HF HD HB HVD q12 qv
  generalize W1.drewN nq=W2 at *
  have q12:=HS2.out.eng.cellR (i:=3) rfl
  simp only [Nat.reduceAdd] at q12
  have qv:=HS2.out.actAt l1
  have zv:=HS2.out.act.frozen (vr lit)
  go_upto_region 2 with fail
  go_region_law (refine wC rfl 64 _ _ rfl _ Try.func64 (by kernel_rfl) (by kernel_rfl) #[.int .i64 lit] (by first|rfl|(simp [Act.eval];done)|(simp [Act.eval,Act.put];done)) (HV.out _) (fun e w' h=>⟨_,h.1⟩) ?_;rintro v9 w9 ⟨hv9,rfl⟩;injection hv9 with hv9;subst hv9)
  all_goals
   have HF3:Hid (Fr κ κ1 w (W2.setCell ⟨U.gc,vr lit,none⟩ (.bool false)).drew lH):=Lib.hid (HF2.out.trans (((frs κ1 W2 HS2.out.act.k).mono fun c hc=>by subst hc;trivial).trans (Fr.drew _ _ _)))
   have HS3:Hid (SolM κ1 (W2.setCell ⟨U.gc,vr lit,none⟩ (.bool false)).drew g { s with act:=s.act.set (vr lit) false } V U):=Lib.hid ((HS2.out.setAct (vr lit) false).drewN 1)
   have f3:Fr κ1 κ1 W2 (W2.setCell ⟨U.gc,vr lit,none⟩ (.bool false)).drew lH:=(((frs κ1 W2 HS2.out.act.k).mono fun c hc=>by subst hc;trivial).trans (Fr.drew _ _ _))
   have HD3:=Lib.hid (HD2.out.fr f3)
   have HB3:=Lib.hid (HB2.out.fr f3 id)
   clear f3 HS2 HF2 HD2 HB2 q12 qv zv
   generalize (W2.setCell ⟨U.gc,vr lit,none⟩ (.bool false)).drew=W3 at *
   have b0:=HB3.out.cell 0
   have b1:=HB3.out.cell 1
   have b2:=HB3.out.cell 2
   have b3:=HB3.out.cell 3
   simp only [zA,zB,zC] at b0 b1 b2 b3
   have HBN:=Lib.hid (cD (.int .i64 i) (.int .i64 j) av cv ds W3 lit HD3.out.diffs HC.out ⟨by omega,by omega⟩)
   cases hbd:bound ds lit with
   | none =>
    rw [hbd] at HBN
    have HN:=Lib.hid hbd
    clear hbd HBD
    go_wp2_with fail
    refine HBN.out.mono ?_
    rintro en W4 ⟨rfl,hb4⟩
    have HS4:=Lib.hid (HS3.out.keep hb4)
    have HF4:=Lib.hid (HF3.out.trans (Fr.kept κ1 hb4 lH))
    clear hb4 HBN HS3 HF3 b0 b1 b2 b3
    unfold boundVal Diff.val
    go_wp2_with fail
    go_end0
    refine ⟨rfl,κ1,V,U,?_,HF4.out.trans (Fr.alloc _ _ _ _), .refl U⟩
    unfold remF
    rw [HA.out,HN.out]
    exact HS4.out.alloc _
   | some d =>
    rw [hbd] at HBN
    obtain ⟨y,hy1,hy2,hy3⟩:=HBD.out rfl d hbd
    have HN:=Lib.hid (And.intro hbd hy1)
    obtain ⟨dx,dy,dc⟩:=d
    simp only at hy1
    subst hy1
    clear hbd HBD
    go_wp2_with fail
    refine HBN.out.mono ?_
    rintro en W4 ⟨rfl,hb4⟩
    have HS4:=Lib.hid (HS3.out.keep hb4)
    have HF4:=Lib.hid (HF3.out.trans (Fr.kept κ1 hb4 lH))
    clear hb4 HBN HS3 HF3 b0 b1 b2 b3 HD3 HB3
    unfold boundVal Diff.val
    go_upto_region 4 with fail
    have f5:=Fr.make κ1 W4 (.cells #[.int .i64 dx, .int .i64 (y:Int), .int .i64 dc] 50) (.tmp 1) (fun _=>False)
    have HS5:=Lib.hid (HS4.out.fr f5 fun _ _=>id)
    have HF5:=Lib.hid (HF4.out.trans (f5.mono (T:=lH) fun _=>False.elim))
    have hb5:=HB.new κ1 W4 (.tmp 1) #[.int .i64 dx, .int .i64 (y:Int), .int .i64 dc] 50
    have d1:=hb5.cell 1
    simp only [zA,zB,zC] at d1
    clear f5 hb5 HS4 HF4
    generalize W4.alloc (.cells #[.int .i64 dx, .int .i64 (y:Int), .int .i64 dc] 50)=W5 at *
    generalize kset κ1 W4.heap.size (.tmp 1)=κ5 at *
    generalize W4.heap.size=gd at *
    obtain ⟨u,hu⟩:∃u,U.sa[y]? = some u:=⟨_,List.getElem?_eq_getElem (by have:=HS5.out.al;simp only at this;omega)⟩
    have har:=HS5.out.ar y u hu
    obtain ⟨Aa,ca,hua,hca,hcm⟩:=har.shape
    simp only at hua hca
    subst hua
    have qa:=HS5.out.arcs.cell y
    rw [zA,hu] at qa
    have za:=HS5.out.arcs.frozen y
    have q11:=HS5.out.eng.cellR (i:=2) rfl
    simp only [Nat.reduceAdd] at q11
    have HAR:=Lib.hid har
    generalize hn:(s.arcs.getD y []).length=n at *
    have HNN:=Lib.hid hn
    unfold maxLen at hcm
    have y1:(y:Int)<(s.num.length:Int):=by omega
    have y2:IntKind.i64.wrap ((n:Int)-1)=((n-1:Nat):Int):=by rw [qS];omega
    have y4:n-1≤ca:=by omega
    clear hn har hu
    go_upto_region 5 with fail
    go_still_tail 26,(by kernel_rfl)
    change wpList _ _ _ _ _ W5.drew
    have HCUT:=Lib.hid (HAR.out.cut (m:=n-1) (by omega) rfl)
    go_wp2_with fail
    go_end0
    have hhold:Hold κ5 W5 (.ar y) 126 4 (.slice Aa (n-1) ca) (s.arcs.getD y []).dropLast.length (acs (s.arcs.getD y []).dropLast):=by
     rw [List.length_dropLast,HNN.out,←acs_drop,HNN.out]
     exact HCUT.out
    obtain ⟨r1,r2⟩:=HS5.out.putAr (Fr.refl κ5 W5 (fun c=>c = .ar y)) hy2 hhold (fun a ha=>HS5.out.arl y a (List.dropLast_subset _ ha))
    refine ⟨rfl,κ5,V,{ U with sa:=U.sa.set y (.slice Aa (n-1) ca) },?_,HF5.out.trans ((r2.mono fun c hc=>by rcases hc with rfl|rfl<;>trivial).trans (Fr.drew _ _ _)),rfl,rfl,rfl,rfl,rfl,rfl,rfl,rfl,rfl⟩
    unfold remF
    rw [HA.out,HN.out.1]
    simp only [uR,Int.toNat_natCast]
    exact r1.drewN 1
end
end Go.Proofs.Yticieifacalocaa
