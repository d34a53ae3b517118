/- SolNewS -/
import Derived.Test.YticieifacalocaaTSH30
import Derived.Test.YticieifacalocaaTSH34
namespace Go.Proofs.Yticieifacalocaa
open Go.RowKit
def NewSRet (w:World) (f:Form) (av cv:Value) (en:Ending) (w':World):Prop :=
 ∃g κ V U,en = .returned (.pointer (some ⟨g,0,none⟩))∧SolM κ w' g (Sol.new f) V U∧U.ob=obsV g∧U.av=av∧U.cv=cv∧U.fi=f.ints∧U.fb=f.bools∧(∀k,k<w.heap.size→κ k=none)∧Below w.heap.size w w'
structure NSv (w0 w:World) (κ:Kap) (g B:Nat) (rest:List Value) (V:EV) (X:List (Col × Nat × TypeId × Array Value)):Prop where
 e:EngM κ w g 89 rest 0 (Eng.new B) V
 x:∀q∈X,HB κ w q.1 q.2.1 q.2.2.1 q.2.2.2
 xs:∀q∈X,q.1 ≠ .slv
 z:∀k,k<w0.heap.size→κ k=none
 f:Below w0.heap.size w0 w
section
variable {w0 w:World} {κ:Kap} {g B:Nat} {rest:List Value} {V:EV} {X:List (Col × Nat × TypeId × Array Value)}
theorem NSv.make (h:NSv w0 w κ g B rest V X) (c:Col) (t:TypeId) (cs:Array Value) (hc:c ≠ .slv):NSv w0 (w.alloc (.cells cs t)) (kset κ w.heap.size c) g B rest V ((c,w.heap.size,t,cs)::X):=by
 have f:=Fr.make κ w (.cells cs t) c (fun _=>False)
 refine ⟨h.e.fr f fun _ _=>id,fun q hq => ?_,fun q hq => ?_,fun k hk => ?_,h.f.alloc h.f.size _⟩
 ·rcases zV.1 hq with rfl|hq
  ·exact HB.new κ w c cs t
  ·exact (h.x q hq).fr f id
 ·rcases zV.1 hq with rfl|hq
  ·exact hc
  ·exact h.xs q hq
 ·have:=h.f.size
  unfold kset
  rw [if_neg (by omega)]
  exact h.z k hk
theorem NSv.new_ (h:NSv w0 w κ g B rest V X) {c:Col} {j:Nat} (hj:κ j=some c):w0.heap.size≤j:=by
 rcases xW j w0.heap.size with hl|hl
 ·rw [h.z j hl] at hj;cases hj
 ·exact hl
theorem NSv.setR (h:NSv w0 w κ g B rest V X) (i:Nat) (v:Value):NSv w0 (w.setCell ⟨g,9+i,none⟩ v) κ g B (rest.set i v) V X:=by
 have f:=frs κ w (i:=9+i) (u:=v) h.e.blk.k
 exact ⟨h.e.setRest i v,fun q hq=>(h.x q hq).fr f (h.xs q hq),h.xs,h.z,h.f.grown (jY _ _ _ _) h.f.size fun j e=>by injection e with e;subst e;exact h.new_ h.e.blk.k⟩
theorem NSv.setU {gu:Nat} {l:List Int} (h:NSv w0 w κ g B rest V ((.unt,gu,3,(ci l).toArray)::X)) (hX:∀q∈X,q.1 ≠ .unt) (i:Nat) (y:Int):NSv w0 (w.setCell ⟨gu,i,none⟩ (.int .i64 y)) κ g B rest V ((.unt,gu,3,(ci (l.set i y)).toArray)::X):=by
 have hu:=h.x _ (.head _)
 have f:=frs κ w (i:=i) (u := .int .i64 y) hu.k
 refine ⟨h.e.fr f fun c hc e=>by subst e;exact hc,fun q hq => ?_,fun q hq => ?_,h.z,h.f.grown (jY _ _ _ _) h.f.size fun j e=>by injection e with e;subst e;exact h.new_ hu.k⟩
 ·rcases zV.1 hq with rfl|hq
  ·have:=hu.set_ i (.int .i64 y)
   rw [wQ,←bN] at this
   exact this
  ·exact (h.x q (.tail _ hq)).fr f (hX q hq)
 ·rcases zV.1 hq with rfl|hq
  ·simp
  ·exact h.xs q (.tail _ hq)
end
theorem NSv.sol {w0 w:World} {κ:Kap} {g N B:Nat} {V:EV} {f:Form} {av cv:Value} {gn ga gc gu gy gf:Nat} (hN:f.ints=N) (hB:f.bools=B) (hN1:N≤1024)
  (h:NSv w0 w κ g B [obsV g, .slice (some ⟨gn,0,none⟩) N N, .slice (some ⟨ga,0,none⟩) N N, .slice (some ⟨gc,0,none⟩) B B, .int .i64 (N:Int), .int .i64 (B:Int),av,cv,nilS, .slice (some ⟨gu,0,none⟩) B B, .slice (some ⟨gy,0,none⟩) B B, .int .i64 100] V
   [(.unt,gu,3,(ci (List.replicate B (-1))).toArray),(.acty,gy,3,(ci (List.replicate B 0)).toArray),(.num,gn,3,(ci ((List.range N).map Int.ofNat)).toArray),(.arcs,ga,139,(List.replicate N nilS).toArray),(.act,gc,4,(cbs (List.replicate B false)).toArray),(.tmp 0,gf,29, #[.int .i64 (N:Int), .int .i64 (B:Int),av,cv])]) :
  SolM κ w g (Sol.new f) V ⟨obsV g, .slice (some ⟨gn,0,none⟩) N N,ga,List.replicate N nilS,gc,f.ints,f.bools,av,cv,nilS,[],gu,gy⟩:=by
 have hx:=h.x
 have h1:=hx _ (.head _)
 have h2:=hx _ (.tail _ (.head _))
 have h3:HB κ w .num gn 3 (ci ((List.range N).map Int.ofNat)).toArray:=hx _ (.tail _ (.tail _ (.head _)))
 have h4:=hx _ (.tail _ (.tail _ (.tail _ (.head _))))
 have h5:=hx _ (.tail _ (.tail _ (.tail _ (.tail _ (.head _)))))
 have eN:f.ints.toNat=N:=by omega
 have eB:f.bools.toNat=B:=by omega
 have hl:((List.range N).map Int.ofNat).length=N:=by simp
 have hv:(Eng.new B).val.length=B:=by simp [Eng.new]
 unfold Sol.new
 rw [eN,eB]
 refine ⟨?_,?_,h4,?_,?_,fun y u hu => ?_,h5,?_,Hold.nil _ _ _ _ _,rfl,fun c o p ho=>by simp at ho,h1,?_,h2,?_,fun y a ha => ?_⟩
 ·have he:=h.e
  simp only [SV.rest,hl,hv,hN,hB]
  exact he
 ·show Hold κ w .num 3 1 _ ((List.range N).map Int.ofNat).length _
  have:=h3.hold (by rw [hl];unfold maxLen;omega)
  rw [hl] at this ⊢
  exact this
 ·simp
 ·simp
 ·have hn:u=nilS:=by
   simp only [List.getElem?_replicate] at hu
   split at hu
   ·injection hu with hu;exact hu.symm
   ·cases hu
  have hg:(List.replicate N ([]:List Arc)).getD y []=[]:=by
   rw [List.getD_eq_getElem?_getD,List.getElem?_replicate]
   split<;>rfl
  show Hold κ w (.ar y) _ 4 u ((List.replicate N ([]:List Arc)).getD y []).length (acs ((List.replicate N ([]:List Arc)).getD y []))
  rw [hg,hn]
  exact Hold.nil _ _ _ _ _
 ·simp [Eng.new]
 ·simp [Eng.new]
 ·simp [Eng.new]
 ·have hg:(List.replicate N ([]:List Arc)).getD y []=[]:=by
   rw [List.getD_eq_getElem?_getD,List.getElem?_replicate]
   split<;>rfl
  have ha2:a∈(List.replicate N ([]:List Arc)).getD y []:=ha
  rw [hg] at ha2
  cases ha2
theorem sY {P:Program} {ops:Array Oper} {o:Oper} {a:Act} {w:World} {K:Act→World→Prop} {Q:Exit→Act→World→Prop} {E:Prop} (hgd:o.guard=none) (T:TypeId) (ps:Array (Nat × Operand)) (ho:o.op=Op.build T ps)
  (v:Value) (hr:(Instr.build T (ps.map fun x=>(x.1,a.eval x.2))).run P w = .ok v w) (h:K (a.put o.dst v) w):if Region.wanted o (yielded ops a.tmps)=true then Oper.wp P o a w K Q else E:=by
 have hw:Region.wanted o (yielded ops a.tmps)=true:=by simp [Region.wanted,hgd]
 rw [if_pos hw]
 unfold Oper.wp
 simp [execOp,ho,hr,Result.andThen]
 exact h
theorem build_slv (a0 a1 a2 a3 a4 a5 a6 a7 a8 a9 b0 b1 b2 c0 c1 c2 c3:Value) (W:World):(Instr.build 89 #[(0, .agg #[a0,a1,a2,a3,a4,a5,a6,a7,a8,a9]),(1, .agg #[b0,b1,b2]),(2, .agg #[c0,c1,c2,c3]),(6, .int .i64 100)]).run Try.prog W = .ok (.agg #[a0,a1,a2,a3,a4,a5,a6,a7,a8,a9,b0,b1,b2,c0,c1,c2,c3, .slice none 0 0, .slice none 0 0, .slice none 0 0, .int .i64 100]) W:=by kernel_rfl
theorem NSv.start {w wu wt:World} {κE κT:Kap} {bE N B gn ga gc:Nat} {V:EV} {av cv:Value} {rest:List Value} {cs:Array Value} (hE:EngM κE wu bE 83 [.nilFunc] 0 (Eng.new B) V) (hz:∀k,k≤w.heap.size→κE k=none)
  (hn:HB κT wt .num gn 3 (ci ((List.range N).map Int.ofNat)).toArray) (ha:HB κT wt .arcs ga 139 (List.replicate N nilS).toArray) (hc:HB κT wt .act gc 4 (cbs (List.replicate B false)).toArray)
  (hz2:∀k,k<wu.heap.size→κT k=none) (hb2:Below wu.heap.size wu wt) (hsz:w.heap.size+1≤wu.heap.size) (hb:Below w.heap.size w wt) (hF:Blk wt w.heap.size 29 #[.int .i64 (N:Int), .int .i64 (B:Int),av,cv]) (hcs:cs=(V.cells B 0++rest).toArray) :
  ∃κ,NSv w (wt.alloc (.cells cs 89)) κ wt.heap.size B rest V [(.num,gn,3,(ci ((List.range N).map Int.ofNat)).toArray),(.arcs,ga,139,(List.replicate N nilS).toArray),(.act,gc,4,(cbs (List.replicate B false)).toArray),(.tmp 0,w.heap.size,29, #[.int .i64 (N:Int), .int .i64 (B:Int),av,cv])]:=by
 obtain ⟨κ0,hκ0⟩:∃κ0:Kap,κ0=fun k=>if k<wu.heap.size then κE k else κT k:=⟨_,rfl⟩
 have f1:Fr κE κ0 wu wt (fun _=>False):=(Fr.kept κE hb2 _).recol fun k hk=>by rw [hκ0];exact if_pos hk
 have hT:∀(c:Col) (j:Nat),κT j=some c→κ0 j=some c:=fun c j hj=>by
  rw [hκ0]
  show (if j<wu.heap.size then κE j else κT j)=some c
  rw [if_neg (fun h=>by rw [hz2 j h] at hj;cases hj)]
  exact hj
 have h00:κ0 w.heap.size=none:=by
  rw [hκ0]
  show (if w.heap.size<wu.heap.size then κE w.heap.size else κT w.heap.size)=none
  rw [if_pos (by omega)]
  exact hz _ (Nat.le_refl _)
 have hS:∀(c:Col) (j:Nat),κ0 j=some c→kset κ0 w.heap.size (.tmp 0) j=some c:=fun c j hj=>by
  unfold kset
  rw [if_neg (fun e=>by subst e;rw [h00] at hj;cases hj)]
  exact hj
 have hE1:=(hE.fr f1 fun _ _=>id).rc (κ':=kset κ0 w.heap.size (.tmp 0)) fun c _ j hj=>hS c j hj
 have f2:=Fr.make (kset κ0 w.heap.size (.tmp 0)) wt (.cells cs 89) .slv (fun _=>False)
 have hE2:=hE1.fr f2 fun _ _=>id
 have hw:w.heap.size<wt.heap.size:=by have:=hb2.size;omega
 refine ⟨kset (kset κ0 w.heap.size (.tmp 0)) wt.heap.size .slv,⟨?_,hE2.cls,hE2.cl,hE2.inp,hE2.val,hE2.rsn,hE2.lvl,hE2.rl,hE2.ll,hE2.tr,hE2.st,hE2.wat,hE2.wt,hE2.B,hE2.v3⟩,fun q hq => ?_,fun q hq => ?_,fun k hk => ?_,hb.alloc hb.size _⟩
 ·have:=HB.new (kset κ0 w.heap.size (.tmp 0)) wt .slv cs 89
  rw [hcs] at this ⊢
  simpa [Eng.new] using this
 ·simp only [zV,vS,jX] at hq
  rcases hq with rfl|rfl|rfl|rfl
  ·exact ((hn.rc (hT _)).rc (hS _)).fr f2 id
  ·exact ((ha.rc (hT _)).rc (hS _)).fr f2 id
  ·exact ((hc.rc (hT _)).rc (hS _)).fr f2 id
  ·have h3:HB (kset κ0 w.heap.size (.tmp 0)) wt (.tmp 0) w.heap.size 29 #[.int .i64 (N:Int), .int .i64 (B:Int),av,cv]:=⟨hF,by unfold kset;exact if_pos rfl⟩
   exact h3.fr f2 id
 ·simp only [zV,vS,jX] at hq
  rcases hq with rfl|rfl|rfl|rfl<;>simp
 ·unfold kset
  rw [if_neg (by omega),if_neg (by omega),hκ0]
  show (if k<wu.heap.size then κE k else κT k)=none
  rw [if_pos (by omega)]
  exact hz k (by omega)
def untK (B k:Nat):List Int:=List.replicate k (-1)++List.replicate (B-k) 0
theorem rQ {B k:Nat} (h:k<B):(untK B k).set k (-1)=untK B (k+1):=by
 unfold untK
 obtain ⟨m,hm⟩:∃m,B-k=m+1:=⟨B-k-1,by omega⟩
 have hm2:B-(k+1)=m:=by omega
 rw [hm,hm2,uV,if_neg (by simp),yE]
 simp [List.replicate_succ',List.append_assoc]
theorem oT {B k:Nat} (h:k≤B):(untK B k).length=B:=by simp [untK];omega
theorem oM (B:Nat):untK B B=List.replicate B (-1):=by simp [untK]
set_option maxRecDepth 100000 in
set_option maxHeartbeats 2000000 in
theorem mF {f:Form} {N B:Nat} (hN:f.ints=N) (hB:f.bools=B) (hN1:N≤1024) (hB1:B≤1024) (av cv:Value) (w:World) :
  Calls Try.prog 36 #[.agg #[.int .i64 (N:Int), .int .i64 (B:Int),av,cv]] w (NewSRet w f av cv):=by
 have HE:=Lib.hid (fun W=>aR hB1 (N:Int) av cv W)
 have HT:=Lib.hid (fun W=>mD hN1 hB1 av cv W)
 have HNB:=Lib.hid (And.intro hN hB)
 have h6:=eW hB1
 have hmf:∀(fn:Fn) (first cap:Array Value) (W:World),(Instr.makeFunc fn first cap).run Try.prog W = .ok (.func fn first cap) W:=fun _ _ _ _=>rfl
 have HF:Hid (∀wx,Below (w.heap.size+1) (w.alloc (.cells #[.int .i64 (N:Int), .int .i64 (B:Int),av,cv] 29)) wx→wx.cell? ⟨w.heap.size,0,none⟩=some (.int .i64 (N:Int))∧wx.cell? ⟨w.heap.size,1,none⟩=some (.int .i64 (B:Int))∧wx.cell? ⟨w.heap.size,2,none⟩=some av∧wx.cell? ⟨w.heap.size,3,none⟩=some cv):=by
  refine Lib.hid fun wx hb => ?_
  have hk:=(Blk.new w 29 #[.int .i64 (N:Int), .int .i64 (B:Int),av,cv])
  have h0:=yK (a:=⟨w.heap.size,0,none⟩) (hb.block w.heap.size (by omega))
  have h1:=yK (a:=⟨w.heap.size,1,none⟩) (hb.block w.heap.size (by omega))
  have h2:=yK (a:=⟨w.heap.size,2,none⟩) (hb.block w.heap.size (by omega))
  have h3:=yK (a:=⟨w.heap.size,3,none⟩) (hb.block w.heap.size (by omega))
  rw [h0,h1,h2,h3]
  exact ⟨hk.cell 0,hk.cell 1,hk.cell 2,hk.cell 3⟩
 have HFB:Hid (∀wx,Below (w.heap.size+1) (w.alloc (.cells #[.int .i64 (N:Int), .int .i64 (B:Int),av,cv] 29)) wx→Blk wx w.heap.size 29 #[.int .i64 (N:Int), .int .i64 (B:Int),av,cv]) :=
  Lib.hid fun wx hb=>(hb.block w.heap.size (by omega)).trans (Blk.new w 29 #[.int .i64 (N:Int), .int .i64 (B:Int),av,cv])
 have HB1:Hid ((w.alloc (.cells #[.int .i64 (N:Int), .int .i64 (B:Int),av,cv] 29)).heap.size=w.heap.size+1∧Below w.heap.size w (w.alloc (.cells #[.int .i64 (N:Int), .int .i64 (B:Int),av,cv] 29))):=Lib.hid ⟨by simp,(zR _ _).alloc (Nat.le_refl _) _⟩
 clear hN hB
 go_enter Try.func36,Try.ntmps36
 go_upto_region 1 with fail
 generalize w.alloc (.cells #[.int .i64 (N:Int), .int .i64 (B:Int),av,cv] 29)=W1 at *
 have s0:=HF.out W1.drew ((zR (w.heap.size+1) W1).drew)
 refine yF (S:=fun w'=>w'.cell? ⟨w.heap.size,0,none⟩=some (.int .i64 (N:Int))∧w'.cell? ⟨w.heap.size,1,none⟩=some (.int .i64 (B:Int))∧w'.cell? ⟨w.heap.size,2,none⟩=some av∧w'.cell? ⟨w.heap.size,3,none⟩=some cv) (by kernel_rfl) (by (try dsimp only);first|with_reducible exact s0|with_reducible exact s1|with_reducible exact s2|with_reducible exact s3) (fun hHeld => ?_)
 refine zI (i:=0) (v := ?v1) (by simp only [zA,zB];rfl) (by kernel_rfl) (by kernel_rfl) (by kernel_rfl) (by exact fun _ _ _ h=>h) (Or.inl ⟨by rfl,?y1⟩) hHeld ?r1
 case y1=>(intro w hSw;(try dsimp only at hSw);go_simp<;>with_reducible rfl)
 (try simp only [Act.put,zD,zE,zF])
 refine zI (i:=2) (v := ?v2) (by simp only [zA,zC,zB];rfl) (by kernel_rfl) (by kernel_rfl) (by kernel_rfl) (by exact fun _ _ _ h=>h) (Or.inl ⟨by rfl,?y2⟩) hHeld ?r2
 case y2=>(intro w hSw;(try dsimp only at hSw);go_simp<;>with_reducible rfl)
 (try simp only [Act.put,zD,zE,zF])
 refine zI (i:=4) (v := ?v3) (by simp only [zA,zC,zB];rfl) (by kernel_rfl) (by kernel_rfl) (by kernel_rfl) (by exact fun _ _ _ h=>h) (Or.inl ⟨by rfl,?y3⟩) hHeld ?r3
 case y3=>(intro w hSw;(try dsimp only at hSw);go_simp<;>with_reducible rfl)
 (try simp only [Act.put,zD,zE,zF])
 refine zS (rs:=[1]) (by kernel_rfl) (by simp) ?_
 refine zM (by simp only [zA,zC,zB];rfl) (fun K hK => ?_) zP
 clear hHeld
 (refine wC rfl 45 _ _ rfl _ Try.func45 (by kernel_rfl) (by kernel_rfl) #[.agg #[.int .i64 (N:Int), .int .i64 (B:Int),av,cv]] (by first|rfl|(simp [Act.eval];done)) (HE.out _) (fun e w' h=>by obtain ⟨_,_,_,h1,_⟩:=h;exact ⟨_,h1⟩) ?_;intro vu wu hu;obtain ⟨κE,bE,⟨ec,ei,et,es,gv,gr,gl,bm,us,mv⟩,hv9,hE9,hz9,hb9, -⟩:=hu;injection hv9 with hv9;obtain ⟨Ac,cc,rfl, -, -⟩:=hE9.cls.shape;obtain ⟨Ai,cI,rfl, -, -⟩:=hE9.inp.shape;obtain ⟨At,cT,rfl, -, -⟩:=hE9.tr.shape;obtain ⟨As,cS,rfl, -, -⟩:=hE9.st.shape;have hv7:vu = .agg #[.slice Ac 0 cc, .slice Ai 0 cI, .map (some bm), .slice (some ⟨gv,0,none⟩) B B, .slice (some ⟨gr,0,none⟩) B B, .slice (some ⟨gl,0,none⟩) B B, .slice At 0 cT, .slice As 0 cS, .int .i64 0, .nilFunc]:=hv9;clear hv9;subst hv7;have HE9:=Lib.hid (And.intro hE9 (And.intro hz9 hb9));clear hE9 hz9 hb9;have HBU:Hid (Below (w.heap.size+1) W1 wu∧w.heap.size+1≤wu.heap.size):=Lib.hid ⟨(by rw [←HB1.out.1];exact ((zR _ W1).drew).trans HE9.out.2.2),(by have h1:=HB1.out.1;have h2:=HE9.out.2.2.size;have h3:W1.drew.heap.size=W1.heap.size:=rfl;omega)⟩;have s1:=HF.out wu HBU.out.1)
 refine hK.out _ _ (by (try dsimp only);first|with_reducible exact s0|with_reducible exact s1|with_reducible exact s2|with_reducible exact s3) (fun hHeld => ?_)
 clear hK K
 (try simp only [Act.put,zD,zE,zF])
 refine zS (rs:=[3]) (by kernel_rfl) (by simp) ?_
 refine zM (by simp only [zA,zC,zB];rfl) (fun K hK => ?_) zP
 clear hHeld
 (refine wC rfl 55 _ _ rfl _ Try.func55 (by kernel_rfl) (by kernel_rfl) #[.agg #[.int .i64 (N:Int), .int .i64 (B:Int),av,cv]] (by first|rfl|(simp [Act.eval];done)|(simp [Act.eval,Act.put];done)) (HT.out _) (fun e w' h=>by obtain ⟨_,_,_,_,h1,_⟩:=h;exact ⟨_,h1⟩) ?_;intro vt wt ht;obtain ⟨κT,gn,ga,gc,hv8,hn8,ha8,hc8,hz8,hb8, -⟩:=ht;injection hv8 with hv8;subst hv8;have HT9:=Lib.hid (And.intro hn8 (And.intro ha8 (And.intro hc8 (And.intro hz8 hb8))));clear hn8 ha8 hc8 hz8 hb8;have HBT:Hid (Below (w.heap.size+1) W1 wt∧w.heap.size+1≤wt.heap.size):=Lib.hid ⟨HBU.out.1.trans (HT9.out.2.2.2.2.mono HBU.out.2),(by have h1:=HBU.out.2;have h2:=HT9.out.2.2.2.2.size;omega)⟩;have s2:=HF.out wt HBT.out.1;have s3:=HF.out (wt.alloc (.cells #[.slice Ac 0 cc, .slice Ai 0 cI, .map (some bm), .slice (some ⟨gv,0,none⟩) B B, .slice (some ⟨gr,0,none⟩) B B, .slice (some ⟨gl,0,none⟩) B B, .slice At 0 cT, .slice As 0 cS, .int .i64 0, .nilFunc, .slice (some ⟨gn,0,none⟩) N N, .slice (some ⟨ga,0,none⟩) N N, .slice (some ⟨gc,0,none⟩) B B, .int .i64 (N:Int), .int .i64 (B:Int),av,cv, .slice none 0 0, .slice none 0 0, .slice none 0 0, .int .i64 100] 89)) (HBT.out.1.alloc HBT.out.2 _))
 refine hK.out _ _ (by (try dsimp only);first|with_reducible exact s0|with_reducible exact s1|with_reducible exact s2|with_reducible exact s3) (fun hHeld => ?_)
 clear hK K
 (try simp only [Act.put,zD,zE,zF])
 refine zS (rs:=[5]) (by kernel_rfl) (by simp) ?_
 refine zM (by simp only [zA,zC,zB];rfl) (fun K hK => ?_) zP
 clear hHeld
 (refine sY rfl 89 _ rfl (.agg #[.slice Ac 0 cc, .slice Ai 0 cI, .map (some bm), .slice (some ⟨gv,0,none⟩) B B, .slice (some ⟨gr,0,none⟩) B B, .slice (some ⟨gl,0,none⟩) B B, .slice At 0 cT, .slice As 0 cS, .int .i64 0, .nilFunc, .slice (some ⟨gn,0,none⟩) N N, .slice (some ⟨ga,0,none⟩) N N, .slice (some ⟨gc,0,none⟩) B B, .int .i64 (N:Int), .int .i64 (B:Int),av,cv, .slice none 0 0, .slice none 0 0, .slice none 0 0, .int .i64 100]) (by simpa [Act.eval,Act.put] using build_slv _ _ _ _ _ _ _ _ _ _ _ _ _ _ _ _ _ wt) ?_)
 refine hK.out _ _ (by (try dsimp only);first|with_reducible exact s0|with_reducible exact s1|with_reducible exact s2|with_reducible exact s3) (fun hHeld => ?_)
 clear hK K
 (try simp only [Act.put,zD,zE,zF])
 refine zS (rs:=[6]) (by kernel_rfl) (by simp) ?_
 refine zM (by simp only [zA,zC,zB];rfl) (fun K hK => ?_) zP
 clear hHeld
 go_simp
 refine hK.out _ _ (by (try dsimp only);first|with_reducible exact s0|with_reducible exact s1|with_reducible exact s2|with_reducible exact s3) (fun hHeld => ?_)
 clear hK K
 (try simp only [Act.put,zD,zE,zF])
 refine zI (i:=7) (v := ?v4) (by simp only [zA,zC,zB];rfl) (by kernel_rfl) (by kernel_rfl) (by kernel_rfl) (by exact fun _ _ _ h=>h) (Or.inl ⟨by rfl,?y4⟩) hHeld ?r4
 case y4=>(intro w hSw;(try dsimp only at hSw);go_simp<;>with_reducible rfl)
 (try simp only [Act.put,zD,zE,zF])
 clear hHeld
 refine yR (by kernel_rfl) ?_ _
 have HS2:Hid (∃κ,NSv w (wt.alloc (.cells #[.slice Ac 0 cc, .slice Ai 0 cI, .map (some bm), .slice (some ⟨gv,0,none⟩) B B, .slice (some ⟨gr,0,none⟩) B B, .slice (some ⟨gl,0,none⟩) B B, .slice At 0 cT, .slice As 0 cS, .int .i64 0, .nilFunc, .slice (some ⟨gn,0,none⟩) N N, .slice (some ⟨ga,0,none⟩) N N, .slice (some ⟨gc,0,none⟩) B B, .int .i64 (N:Int), .int .i64 (B:Int),av,cv, .slice none 0 0, .slice none 0 0, .slice none 0 0, .int .i64 100] 89)) κ wt.heap.size B [.nilFunc, .slice (some ⟨gn,0,none⟩) N N, .slice (some ⟨ga,0,none⟩) N N, .slice (some ⟨gc,0,none⟩) B B, .int .i64 (N:Int), .int .i64 (B:Int),av,cv, .slice none 0 0, .slice none 0 0, .slice none 0 0, .int .i64 100] ⟨.slice Ac 0 cc, .slice Ai 0 cI, .slice At 0 cT, .slice As 0 cS,gv,gr,gl,bm,us,mv⟩ [(.num,gn,3,(ci ((List.range N).map Int.ofNat)).toArray),(.arcs,ga,139,(List.replicate N nilS).toArray),(.act,gc,4,(cbs (List.replicate B false)).toArray),(.tmp 0,w.heap.size,29, #[.int .i64 (N:Int), .int .i64 (B:Int),av,cv])]) :=
  Lib.hid (NSv.start HE9.out.1 (fun k hk=>HE9.out.2.1 k (by have h1:=HB1.out.1;show k<W1.heap.size;omega)) HT9.out.1 HT9.out.2.1 HT9.out.2.2.1 HT9.out.2.2.2.1 HT9.out.2.2.2.2 HBU.out.2 (HB1.out.2.trans (HBT.out.1.mono (Nat.le_succ _))) (HFB.out wt HBT.out.1) rfl)
 clear s0 s1 s2 s3 HE9 HT9 HF HFB
 generalize wt.alloc (.cells #[.slice Ac 0 cc, .slice Ai 0 cI, .map (some bm), .slice (some ⟨gv,0,none⟩) B B, .slice (some ⟨gr,0,none⟩) B B, .slice (some ⟨gl,0,none⟩) B B, .slice At 0 cT, .slice As 0 cS, .int .i64 0, .nilFunc, .slice (some ⟨gn,0,none⟩) N N, .slice (some ⟨ga,0,none⟩) N N, .slice (some ⟨gc,0,none⟩) B B, .int .i64 (N:Int), .int .i64 (B:Int),av,cv, .slice none 0 0, .slice none 0 0, .slice none 0 0, .int .i64 100] 89)=W2 at *
 generalize wt.heap.size=g at *
 obtain ⟨κ0,hN0⟩:=HS2.out
 have HN0:=Lib.hid hN0
 have b1:=(hN0.x _ (.tail _ (.tail _ (.tail _ (.head _))))).cell 1
 simp only [zA,zB,zC] at b1
 have h1:=hN0.make .acty 3 (ci (List.replicate B 0)).toArray (by simp)
 have q19:=h1.e.cellR (i:=10) rfl
 have z19:=h1.e.frz 19
 simp only [Nat.reduceAdd] at q19
 have HN1:=Lib.hid (h1.setR 10 (.slice (some ⟨W2.heap.size,0,none⟩) B B))
 simp only [zF,zE,Nat.reduceAdd] at HN1
 clear h1 hN0 HN0 HS2 HBU HBT
 go_upto_region 3 with fail
 clear b1 q19 z19
 generalize (W2.alloc (.cells (ci (List.replicate B 0)).toArray 3)).setCell ⟨g,19,none⟩ (.slice (some ⟨W2.heap.size,0,none⟩) B B)=W3 at *
 generalize kset κ0 W2.heap.size .acty=κ1 at *
 generalize W2.heap.size=gy at *
 have b1:=(HN1.out.x _ (.tail _ (.tail _ (.tail _ (.tail _ (.head _)))))).cell 1
 simp only [zA,zB,zC] at b1
 have h1:=HN1.out.make .unt 3 (ci (List.replicate B 0)).toArray (by simp)
 have q18:=h1.e.cellR (i:=9) rfl
 have z18:=h1.e.frz 18
 simp only [Nat.reduceAdd] at q18
 have HN2:=Lib.hid (h1.setR 9 (.slice (some ⟨W3.heap.size,0,none⟩) B B))
 simp only [zF,zE,Nat.reduceAdd] at HN2
 clear h1 HN1
 go_upto_region 4 with fail
 clear b1 q18 z18
 generalize (W3.alloc (.cells (ci (List.replicate B 0)).toArray 3)).setCell ⟨g,18,none⟩ (.slice (some ⟨W3.heap.size,0,none⟩) B B)=W4 at *
 generalize kset κ1 W3.heap.size .unt=κ2 at *
 generalize W3.heap.size=gu at *
 have q18:=HN2.out.e.cellR (i:=9) rfl
 simp only [Nat.reduceAdd] at q18
 go_upto_region 5 with fail
 clear q18
 go_loopw [29] (fun i wr=>∃k:Nat,k≤B∧i = .int .i64 (k:Int)∧Hid (NSv w wr κ2 g B [.nilFunc, .slice (some ⟨gn,0,none⟩) N N, .slice (some ⟨ga,0,none⟩) N N, .slice (some ⟨gc,0,none⟩) B B, .int .i64 (N:Int), .int .i64 (B:Int),av,cv, .slice none 0 0, .slice (some ⟨gu,0,none⟩) B B, .slice (some ⟨gy,0,none⟩) B B, .int .i64 100] ⟨.slice Ac 0 cc, .slice Ai 0 cI, .slice At 0 cT, .slice As 0 cS,gv,gr,gl,bm,us,mv⟩ ((.unt,gu,3,(ci (untK B k)).toArray)::[(.acty,gy,3,(ci (List.replicate B 0)).toArray),(.num,gn,3,(ci ((List.range N).map Int.ofNat)).toArray),(.arcs,ga,139,(List.replicate N nilS).toArray),(.act,gc,4,(cbs (List.replicate B false)).toArray),(.tmp 0,w.heap.size,29, #[.int .i64 (N:Int), .int .i64 (B:Int),av,cv])]))) (fun i _=>B-(intOf i).toNat)
 case atStart=>exact ⟨0,zQ _,rfl,Lib.hid (by have:=HN2.out;simpa [untK] using this)⟩
 case round =>
  clear HN2
  obtain ⟨k,hk,rfl,HS⟩:=hrel
  by_cases hlt:k<B
  ·have q18:=HS.out.e.cellR (i:=9) rfl
   simp only [Nat.reduceAdd] at q18
   have hu:=HS.out.x _ (.head _)
   obtain ⟨y,hy⟩:∃y,(untK B k)[k]? = some y:=⟨_,List.getElem?_eq_getElem (by rw [oT hk];exact hlt)⟩
   have qu:=hu.cell k
   simp only at qu
   rw [zA,wU hy] at qu
   have zu:=hu.frozen k
   have y1:(k:Int)<(B:Int):=by omega
   have hn:=HS.out.setU (by intro q hq;simp only [zV,vS,jX] at hq;rcases hq with rfl|rfl|rfl|rfl|rfl<;>simp) k (-1)
   rw [rQ hlt] at hn
   have HN3:=Lib.hid hn
   clear hn HS hu hy
   go_wp2_with fail
   go_roundw
   case rel=>exact ⟨k+1,by omega,by go_num,HN3⟩
   case measure=>simp [intOf];omega
  ·obtain rfl:k=B:=by omega
   have y1:¬k<k:=by omega
   have q9:=HS.out.e.cellR (i:=0) rfl
   have z9:=HS.out.e.frz 9
   simp only [kX] at q9
   have HN3:=Lib.hid (HS.out.setR 0 (.func (.func 56) #[.pointer (some ⟨g,0,none⟩)] #[]))
   simp only [zE,kX] at HN3
   clear HS hlt hk
   go_wp2_with fail
   go_ret
   have hn:=HN3.out
   rw [oM] at hn
   exact ⟨g,κ2,_,_,rfl,NSv.sol HNB.out.1 HNB.out.2 hN1 hn,rfl,rfl,rfl,rfl,rfl,hn.z,hn.f⟩
end Go.Proofs.Yticieifacalocaa
