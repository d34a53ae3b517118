/- SolCyc SolQue SolLowW -/
import Derived.Test.YticieifacalocaaTSH24
import Derived.Deep.LoopGhost
import Derived.Deep.AppendSrc
namespace Go.Proofs.Yticieifacalocaa
open Go.RowKit
theorem nT {w:World} {B B':Nat} {e:TypeId} {sz n:Nat} {v:Value} {xs:List Value} (h:w.ownsRow B e sz v n xs) (hB:B'≤B):w.ownsRow B' e sz v n xs:=by
 refine ⟨h.1,?_⟩
 rcases h.2 with h0|⟨g,cap,cur,h1,h2,h3⟩
 ·exact .inl h0
 ·exact .inr ⟨g,cap,cur,h1,qA hB h2,h3⟩
theorem nP {l:List Arc} {k:Nat} {a:Arc} (h:l[k]? = some a):(acs l)[k * 4]? = some (.int .i64 a.lit)∧(acs l)[k * 4+1]? = some (.int .i64 a.x)∧(acs l)[k * 4+2]? = some (.int .i64 a.y)∧(acs l)[k * 4+3]? = some (.int .i64 a.c):=by
 induction l generalizing k with
 | nil=>simp at h
 | cons e r ih =>
  have hl:e.cells.length=4:=rfl
  have hc:acs (e::r)=e.cells++acs r:=rfl
  rw [hc]
  cases k with
  | zero=>simp at h;subst h;exact ⟨rfl,rfl,rfl,rfl⟩
  | succ k =>
   obtain ⟨h1,h2,h3,h4⟩:=ih (k:=k) (by simpa using h)
   refine ⟨?_,?_,?_,?_⟩
   ·rw [zL (by omega),hl,show (k+1) * 4-4=k * 4 by omega];exact h1
   ·rw [zL (by omega),hl,show (k+1) * 4+1-4=k * 4+1 by omega];exact h2
   ·rw [zL (by omega),hl,show (k+1) * 4+2-4=k * 4+2 by omega];exact h3
   ·rw [zL (by omega),hl,show (k+1) * 4+3-4=k * 4+3 by omega];exact h4
theorem ga_at {l:List Arc} {k:Nat} (h:k<l.length):l[k]? = some (ga l (k:Int)):=by
 unfold ga;rw [Int.toNat_natCast,List.getD_eq_getElem?_getD,List.getElem?_eq_getElem h];rfl
def Arc.val (a:Arc):Value := .agg #[.int .i64 a.lit, .int .i64 a.x, .int .i64 a.y, .int .i64 a.c]
def CycS (W1 wr:World) (by_:List Arc) (a:Arc) (l:List Int) (k:Nat) (n:Int) (xs:List Int) (v:Value):Prop :=
 wr.ownsRow W1.heap.size 3 1 v xs.length (ci xs)∧Below W1.heap.size W1 wr∧xs.length+k≤1000∧∃rest,xs++rest=l∧aP by_ a.x k n=some rest
set_option maxRecDepth 100000 in
set_option maxHeartbeats 4000000 in
theorem sS {w:World} {a:Arc} {by_:List Arc} {gb:Nat} (hb:Blk w gb 126 (acs by_).toArray) {l:List Int} (hw:aP by_ a.x 1000 a.y=some l) :
  Calls Try.prog 100 #[a.val, .slice (some ⟨gb,0,none⟩) by_.length by_.length] w fun en w'=>∃g2 c,en = .returned (.slice (some ⟨g2,0,none⟩) (l.length+1) c)∧w'.ownsRow w.heap.size 3 1 (.slice (some ⟨g2,0,none⟩) (l.length+1) c) (l.length+1) (ci (l++[a.lit]))∧Below w.heap.size w w':=by
 obtain ⟨iI,hiI,hzI0,hzI1,hzI2⟩:=qD wV
 obtain ⟨al,ax,ay,ac⟩:=a
 have HB1:=Lib.hid (hb.alloc (.cells #[.int .i64 al, .int .i64 ax, .int .i64 ay, .int .i64 ac] 126))
 have HA1:=Lib.hid (Blk.new w 126 #[.int .i64 al, .int .i64 ax, .int .i64 ay, .int .i64 ac])
 have HBL:=Lib.hid ((zR w.heap.size w).alloc (Nat.le_refl _) (.cells #[.int .i64 al, .int .i64 ax, .int .i64 ay, .int .i64 ac] 126))
 have HSZ:Hid (w.heap.size≤(w.alloc (.cells #[.int .i64 al, .int .i64 ax, .int .i64 ay, .int .i64 ac] 126)).heap.size):=Lib.hid HBL.out.size
 have HS0:Hid (CycS (w.alloc (.cells #[.int .i64 al, .int .i64 ax, .int .i64 ay, .int .i64 ac] 126)) (w.alloc (.cells #[.int .i64 al, .int .i64 ax, .int .i64 ay, .int .i64 ac] 126)) by_ ⟨al,ax,ay,ac⟩ l 1000 ay [] (.slice none 0 0)):=Lib.hid ⟨qE _ _ _ _,zR _ _,by simp,l,rfl,hw⟩
 unfold Arc.val
 clear hb hw
 go_enter Try.func100,Try.ntmps100
 go_upto_region 1 with fail
 generalize w.alloc (.cells #[.int .i64 al, .int .i64 ax, .int .i64 ay, .int .i64 ac] 126)=W1 at *
 have b2:=HA1.out.cell 2
 simp only [zA,zB,zC] at b2
 go_upto_region 3 with fail
 clear b2
 go_loopg [5,6] 1000 (fun k v5 v6 wr=>∃(n:Int) (xs:List Int) (A:Option Addr) (c:Nat),v5 = .slice A xs.length c∧v6 = .int .i64 n∧Hid (CycS W1 wr by_ ⟨al,ax,ay,ac⟩ l k n xs (.slice A xs.length c)))
 case atStart=>exact ⟨ay,[],none,0,rfl,rfl,HS0⟩
 case round =>
  clear HS0
  obtain ⟨n,xs,A,c,rfl,rfl,HS⟩:=hrel
  obtain ⟨hown,hbl,hlen,rest,hrest,hway⟩:=HS.out
  have a1:=(HA1.out.keep hbl).cell 1
  have a0:=(HA1.out.keep hbl).cell 0
  simp only [zA,zB,zC] at a0 a1
  have H63:Hid (xs.length+1≤maxLen):=by refine Lib.hid ?_;unfold maxLen;omega
  have HBY:Hid ((xs.length+1) * 8≤140737488355328):=by refine Lib.hid ?_;omega
  cases gk with
  | zero=>cases hway
  | succ k =>
  rw [aP] at hway
  have HOWN:=Lib.hid hown
  have HB2:=Lib.hid hbl
  by_cases hn:n=ax
  ·subst hn
   rw [if_pos rfl] at hway
   injection hway with hway
   subst hway
   have HL:Hid (xs=l):=Lib.hid (by rw [←hrest];simp)
   clear hrest hown hbl HS hlen
   go_wp2_with (at_builtin;refine yZ _ rfl _ _ 33 rfl W1.heap.size 3 iI (.int .i64 0) 1 8 Try.underlying33 hiI hzI0 hzI1 hzI2 rfl (by decide) _ _ _ rfl (HOWN.out.alloc _) ⟨wr.heap.size,0,none⟩ 1 1 [.int .i64 al] rfl rfl (wR wr _ _) ?pc2 H63.out HBY.out (by have:=HB2.out.size;simp;omega) ?_)
   case pc2=>first|rfl|(intro u hu;simp at hu;subst hu;rfl)
   intro v' w2 hown' hgrow _
   have HO2:=Lib.hid hown'
   have HG2:Hid (Below W1.heap.size W1 w2):=Lib.hid ((HB2.out.alloc HB2.out.size _).grown hgrow (by have:=HB2.out.size;simp;omega) (fun g hg=>(HOWN.out.lt g hg).1))
   obtain ⟨g2,cap2,hv2, -⟩:∃g2 cap2,v' = .slice (some ⟨g2,0,none⟩) (xs.length+1) cap2∧True:=by
    rcases bG hown' with ⟨-,h0, -⟩|⟨g2,cap2,h2⟩
    ·omega
    ·exact ⟨g2,cap2,h2,trivial⟩
   subst hv2
   clear hown' hgrow a0 a1
   go_wp2_with fail
   go_ret
   refine ⟨g2,cap2,by rw [HL.out];rfl,?_,HBL.out.trans (HG2.out.mono HSZ.out)⟩
   have:=nT HO2.out HSZ.out
   rw [←HL.out,cE]
   exact this
  ·rw [if_neg hn] at hway
   split at hway
   ·rename_i hr
    obtain ⟨m,rfl⟩:∃m:Nat,n=m:=⟨n.toNat,by omega⟩
    have hm:m<by_.length:=by omega
    cases hway2:aP by_ ax k (ga by_ (m:Int)).y with
    | none=>rw [hway2] at hway;cases hway
    | some rest2 =>
    rw [hway2] at hway
    injection hway with hway
    obtain ⟨d1,d2,d3,d4⟩:=nP (ga_at hm)
    have hbk:=HB1.out.keep hbl
    have q0:=hbk.cell (m * 4)
    have q2:=hbk.cell (m * 4+2)
    rw [zA,d1] at q0
    rw [zA,d3] at q2
    have HD3:=Lib.hid d3
    generalize ga by_ (m:Int)=e at *
    have HW2:=Lib.hid hway2
    have HRS:Hid ((xs++[e.lit])++rest2=l):=Lib.hid (by rw [←hrest,←hway];simp)
    have HLN:Hid ((xs++[e.lit]).length+k≤1000):=Lib.hid (by simp;omega)
    have y1:(m:Int)<(by_.length:Int):=by omega
    have yn:decide ((m:Int)≠ax)=true:=by simpa using hn
    have yn2:¬((m:Int)=ax):=hn
    clear hway hway2 hrest hown hbl HS hr hbk d1 d2 d3 d4 q2 hn hlen
    go_wp2_with (at_builtin;refine yZ _ rfl _ _ 33 rfl W1.heap.size 3 iI (.int .i64 0) 1 8 Try.underlying33 hiI hzI0 hzI1 hzI2 rfl (by decide) _ _ _ rfl (HOWN.out.alloc _) ⟨wr.heap.size,0,none⟩ 1 1 [.int .i64 e.lit] rfl rfl (wR wr _ _) ?qc2 H63.out HBY.out (by have:=HB2.out.size;simp;omega) ?_)
    case qc2=>first|rfl|(intro u hu;simp at hu;subst hu;rfl)
    intro v' w2 hown' hgrow _
    obtain ⟨A2,cap2,hv2⟩:=bK hown'
    subst hv2
    have hg2:Below W1.heap.size W1 w2:=(HB2.out.alloc HB2.out.size _).grown hgrow (by have:=HB2.out.size;simp;omega) (fun g hg=>(HOWN.out.lt g hg).1)
    have q2:=(HB1.out.keep hg2).cell (m * 4+2)
    rw [zA,HD3.out] at q2
    have HS2:Hid (CycS W1 w2 by_ ⟨al,ax,ay,ac⟩ l k e.y (xs++[e.lit]) (.slice A2 (xs++[e.lit]).length cap2)):=by
     refine Lib.hid ⟨?_,hg2,HLN.out,rest2,HRS.out,HW2.out⟩
     rw [cE,zJ]
     exact hown'
    clear hown' hgrow hg2 q0
    go_wp2_with fail
    go_roundg k
    case measure=>omega
    case rel=>exact ⟨e.y,xs++[e.lit],A2,cap2,by simp,rfl,HS2⟩
   ·cases hway
theorem eO {P:Program} {w w':World} {ops:Array Oper} {rest:List Oper} {o:Oper} {a:Act} {Q:Exit→Act→World→Prop} (hgd:o.guard=none) (s x:Operand) (t:TypeId)
  (ho:o.op = .call { callee := .builtin .append,args := #[s,x],argTypes := #[t,t] }) (vs vx:Value) (hs:a.eval s=vs) (hx:a.eval x=vx) {v':Value}
  (hr:(Builtin.append_ #[t,t] o.type #[vs,vx]).run P w = .ok v' w') (h:wpList P ops Q rest (a.put o.dst v') w'):wpList P ops Q (o::rest) a w:=by
 refine uS hgd fun K hK => ?_
 unfold Oper.wp execOp
 simp only [ho,resolve,invoke,builtin,vN,vO,xY,kW,qC,xU,hs,hx,hr]
 exact hK _ _ h
theorem lI {P:Program} {w:World} {ops:Array Oper} {rest:List Oper} {o:Oper} {a:Act} {Q:Exit→Act→World→Prop} (hgd:o.guard=none) (t:TypeId) (x lo:Operand)
  (ho:o.op = .slice t x (some lo) none none) (ht:P.underlying t=some (.slice (P.elem t))) (vx vl:Value) (hx:a.eval x=vx) (hl:a.eval lo=vl) {v':Value}
  (hr:(Instr.slice t vx (some vl) none none).run P w = .ok v' w) (h:wpList P ops Q rest (a.put o.dst v') w):wpList P ops Q (o::rest) a w:=by
 refine uS hgd fun K hK => ?_
 unfold Oper.wp execOp
 simp only [ho,vD,Option.map_none,hx,hl,vN,run_sliceAt_slice w t vx (some vl) none none ht,hr,xY,vO]
 exact hK _ _ h
structure QR (κ:Kap) (w:World) (i B g off n cap:Nat) (q:List Int):Prop where
 k:κ g=some (.tmp i)
 nw:B≤g
 b:∃cur:Array Value,Blk w g 3 cur∧off+cap≤cur.size∧∀j x,q[j]? = some x→cur[off+j]? = some (.int .i64 x)
 len:n=q.length
 le:n≤cap
 max:cap≤maxLen
section
variable {κ κ':Kap} {w w':World} {i B g off n cap:Nat} {q:List Int} {x:Int} {S:Col→Prop}
theorem QR.fr (h:QR κ w i B g off n cap q) (f:Fr κ κ' w w' S) (hs:¬S (.tmp i)):QR κ' w' i B g off n cap q:=by
 obtain ⟨cur,h1,h2,h3⟩:=h.b
 have hb:HB κ w (.tmp i) g 3 cur:=⟨h1,h.k⟩
 exact ⟨(hb.fr f hs).k,h.nw,⟨cur,(hb.fr f hs).b,h2,h3⟩,h.len,h.le,h.max⟩
theorem QR.first (h:QR κ w i B g off n cap (x::q)):w.cell? ⟨g,off,none⟩=some (.int .i64 x):=by
 obtain ⟨cur,h1,h2,h3⟩:=h.b
 rw [h1.cell]
 exact h3 0 x rfl
def popO (off cap:Nat):Nat:=if cap=1 then off else off+1
theorem QR.pop (h:QR κ w i B g off n cap (x::q)):QR κ w i B g (popO off cap) (n-1) (cap-1) q∧∀W,(Instr.slice 33 (.slice (some ⟨g,off,none⟩) n cap) (some (.int .i64 1)) none none).run Try.prog W = .ok (.slice (some ⟨g,popO off cap,none⟩) (n-1) (cap-1)) W:=by
 have hn:=h.len
 have hle:=h.le
 rw [qJ] at hn
 constructor
 ·obtain ⟨cur,h1,h2,h3⟩:=h.b
  refine ⟨h.k,h.nw,⟨cur,h1,?_,fun j y hy => ?_⟩,by omega,by omega,qA (Nat.sub_le _ _) h.max⟩
  ·unfold popO;split<;>omega
  ·unfold popO
   by_cases hc:cap=1
   ·have:q.length=0:=by omega
    rw [qU this] at hy
    simp at hy
   ·rw [if_neg hc,show off+1+j=off+(j+1) by omega]
    exact h3 (j+1) y (by simpa using hy)
 ·intro W
  have he:(sizeOf (Try.prog.elem 33)).run Try.prog W = .ok 1 W:=by kernel_rfl
  rw [run_slice_l W 33 (some ⟨g,off,none⟩) n cap (by kernel_rfl) .i64 1 (by omega) (by omega),he]
  unfold sliced popO
  simp only [Result.andThen]
  by_cases hc:cap=1
  ·subst hc;simp
  ·rw [if_neg hc,if_neg (by simpa using hc)]
   simp [Addr.add_lit]
theorem QR.app (h:QR κ w i B g off n cap q) (hl:q.length≤100000) (hB:B≤w.heap.size) (x:Int) :
  ∃g2 off2 cap2 κ2 w2,(Builtin.append_ #[33,33] 33 #[.slice (some ⟨g,off,none⟩) n cap, .slice (some ⟨w.heap.size,0,none⟩) 1 1]).run Try.prog (w.alloc (.cells #[.int .i64 x] 3)) = .ok (.slice (some ⟨g2,off2,none⟩) (n+1) cap2) w2 ∧
   QR κ2 w2 i B g2 off2 (n+1) cap2 (q++[x])∧Fr κ κ2 w w2 (fun c=>c = .tmp i)∧(w.alloc (.cells #[.int .i64 x] 3)).grownBy w2 (some g)∧∀k,k<w.heap.size→κ2 k=κ k:=by
 obtain ⟨iI,hiI,hzI0,hzI1,hzI2⟩:=qD wV
 obtain ⟨cur,h1,h2,h3⟩:=h.b
 have hn:=h.len
 have hle:=h.le
 have hb:HB κ w (.tmp i) g 3 cur:=⟨h1,h.k⟩
 have f1:=Fr.alloc κ w (.cells #[.int .i64 x] 3) (fun c=>c = .tmp i)
 have hb1:Blk (w.alloc (.cells #[.int .i64 x] 3)) g 3 cur:=h1.alloc _
 by_cases hroom:n+1≤cap
 ·have hr:=run_append_room_src (P:=Try.prog) (w.alloc (.cells #[.int .i64 x] 3)) 33 33 33 3 iI Try.underlying33 hiI g off n cap (.slice (some ⟨w.heap.size,0,none⟩) 1 1) 1 [.int .i64 x]
   (Src.ofSlice _ Try.underlying33 ⟨w.heap.size,0,none⟩ 1 1 [.int .i64 x] (by rw [hzI1];rfl) (wR w _ _) (by intro u hu;simp at hu;subst hu;rfl)) hroom
   (fun j hj=>by rw [hb1.cell];simp at hj;subst hj;rw [hzI1];simp;omega) (fun j hj=>hb1.frozen _)
  have e1:(w.alloc (.cells #[.int .i64 x] 3)).setCells g (off+n * iI.size) [.int .i64 x]=(w.alloc (.cells #[.int .i64 x] 3)).setCell ⟨g,off+n,none⟩ (.int .i64 x):=by
   rw [hzI1,yA];rfl
  rw [e1] at hr
  refine ⟨g,off,cap,κ,_,hr,⟨h.k,h.nw,⟨_,hb1.set_ (off+n) (.int .i64 x),by simpa using h2,fun j y hy => ?_⟩,by simp [hn],hroom,h.max⟩,f1.trans (Fr.set κ _ h.k rfl),jY _ _ _ _,fun _ _=>rfl⟩
  rcases xJ j q.length with hj|hj|hj
  ·rw [zO hj] at hy
   rw [Array.getElem?_setIfInBounds_ne (by omega)]
   exact h3 j y hy
  ·subst hj
   rw [zL (Nat.le_refl _),xX] at hy
   simp at hy
   subst hy
   rw [hn,Array.getElem?_setIfInBounds_self_of_lt (by omega)]
  ·rw [List.getElem?_eq_none (by simp;omega)] at hy
   cases hy
 ·have hr:=run_append_grow (P:=Try.prog) (w.alloc (.cells #[.int .i64 x] 3)) 33 33 3 iI (.int .i64 0) Try.underlying33 hiI hzI0 ⟨g,off,none⟩ n cap (ci q) (by rw [fO,hzI1];omega)
   (fun j v hv=>by
    rw [jO,hb1.cell]
    unfold ci at hv
    rw [List.getElem?_map] at hv
    cases hq:q[j]? with
    | none=>rw [hq] at hv;cases hv
    | some y=>rw [hq] at hv;simp at hv;subst hv;exact h3 j y hq)
   ⟨w.heap.size,0,none⟩ 1 1 [.int .i64 x] (by rw [hzI1];rfl) (wR w _ _) (by omega) (by omega) (growslice_fits (by omega) (by rw [hzI2];omega))
  refine ⟨_,0,_,kset κ (w.alloc (.cells #[.int .i64 x] 3)).heap.size (.tmp i),_,hr,⟨by unfold kset;rw [if_pos rfl],by simp;omega,⟨_,Blk.new _ _ _,?_,fun j y hy => ?_⟩,by simp [hn],grownCap_ge _ _ _ _,grownCap_le_maxLen _ _ _ _ (by unfold maxLen;omega)⟩,?_,⟨rfl,rfl,rfl,by simp,fun k hk _=>Below.heap_alloc _ _ k hk⟩,fun k hk=>by unfold kset;rw [if_neg (by simp;omega)]⟩
  ·have:=grownCap_ge (w.alloc (.cells #[.int .i64 x] 3)) (n+1) cap 3
   simp only [Array.size_append,List.size_toArray,size_zeroCells,fO,qQ]
   simp only [Value.cells]
   simp
   omega
  ·rw [qZ,Array.append_assoc]
   have hj:j<q.length+1:=by have:=(zG.1 hy).1;simpa using this
   rw [←Array.append_assoc,Array.getElem?_append_left (by simp [fO];omega)]
   have e2:(ci q).toArray++[Value.int .i64 x].toArray=(ci (q++[x])).toArray:=by rw [cE];simp
   rw [e2,zA]
   exact wU hy
  ·refine ((f1.trans (Fr.drew κ _ _)).trans (Fr.alloc κ _ _ _)).paint (by simp) _
end
theorem zero_a:∀i,i<(Value.agg #[.int .i64 0, .int .i64 0, .int .i64 0, .int .i64 0]).cells.size→(Value.agg #[.int .i64 0, .int .i64 0, .int .i64 0, .int .i64 0]).cells[i]! = .int .i64 0:=fun i hi=>by
 have hi':i<4:=hi
 have:i=0∨i=1∨i=2∨i=3:=by omega
 rcases this with rfl|rfl|rfl|rfl<;>rfl
theorem acs_zero (n:Nat):acs (List.replicate n default)=List.replicate (n * 4) (Value.int .i64 0):=by
 unfold acs
 induction n with
 | zero=>rfl
 | succ n ih=>rw [yE,xT,ih,show (n+1) * 4=n * 4+1+1+1+1 by omega,yE,yE,yE,yE];rfl
theorem mk_arcs (n:Nat) (h:n≤1000000) (w:World):(Instr.makeSlice 139 (.int .i64 (n:Int)) (.int .i64 (n:Int))).run Try.prog w = .ok (.slice (some ⟨w.heap.size,0,none⟩) n n) (w.alloc (.cells (acs (List.replicate n default)).toArray 126)):=by
 obtain ⟨i,hi,h0,h1,h2⟩:=qD pX
 rw [dO _ _ i _ Try.underlying139 hi h0 n (by rw [h2];omega) (by omega) w,h1,bD _ (.int .i64 0) _ (by decide) zero_a,acs_zero]
theorem mk_boolc (n:Nat) (h:n≤1000000) (w:World):(Instr.makeSlice 32 (.int .i64 (n:Int)) (.int .i64 (n:Int))).run Try.prog w = .ok (.slice (some ⟨w.heap.size,0,none⟩) n n) (w.alloc (.cells (cbs (List.replicate n false)).toArray 4)):=by
 obtain ⟨i,hi,h0,h1,h2⟩:=qD fN
 rw [dO _ _ i _ Try.underlying32 hi h0 n (by rw [h2];omega) (by omega) w,h1,bD _ (.bool false) _ (by decide) zero_b,yA]
 simp [cbs]
theorem acs_set (l:List Arc) (k:Nat) (a:Arc):((((acs l).set (k * 4) (.int .i64 a.lit)).set (k * 4+1) (.int .i64 a.x)).set (k * 4+2) (.int .i64 a.y)).set (k * 4+3) (.int .i64 a.c)=acs (l.set k a):=by
 induction l generalizing k with
 | nil=>simp [acs]
 | cons e r ih =>
  have hc:∀(x:Arc) (r:List Arc),acs (x::r)=x.cells++acs r:=fun _ _=>rfl
  cases k with
  | zero=>simp [hc,Arc.cells]
  | succ k =>
   have h:=ih k
   rw [zF,hc,hc]
   have a1:∀(t:List Value) (j:Nat) (v:Value),4≤j→(e.cells++t).set j v=e.cells++t.set (j-4) v:=by
    intro t j v hj
    have hl:e.cells.length=4:=rfl
    rw [uV,if_neg (by omega),hl]
   rw [a1 _ _ _ (by omega),a1 _ _ _ (by omega),a1 _ _ _ (by omega),a1 _ _ _ (by omega),show (k+1) * 4-4=k * 4 by omega,show (k+1) * 4+1-4=k * 4+1 by omega,show (k+1) * 4+2-4=k * 4+2 by omega,show (k+1) * 4+3-4=k * 4+3 by omega,h]
section
variable {κ κ':Kap} {w w':World} {c:Col} {g:Nat} {l:List Arc} {S:Col→Prop}
def setArc (w:World) (g k:Nat) (a:Arc):World:=(((w.setCell ⟨g,k * 4,none⟩ (.int .i64 a.lit)).setCell ⟨g,k * 4+1,none⟩ (.int .i64 a.x)).setCell ⟨g,k * 4+2,none⟩ (.int .i64 a.y)).setCell ⟨g,k * 4+3,none⟩ (.int .i64 a.c)
theorem HB.setArc (h:HB κ w c g 126 (acs l).toArray) (k:Nat) (a:Arc):HB κ (setArc w g k a) c g 126 (acs (l.set k a)).toArray:=by
 have:=(((h.set_ (k * 4) (.int .i64 a.lit)).set_ (k * 4+1) (.int .i64 a.x)).set_ (k * 4+2) (.int .i64 a.y)).set_ (k * 4+3) (.int .i64 a.c)
 rw [wQ,wQ,wQ,wQ,acs_set] at this
 exact this
theorem Fr.setArc (κ:Kap) (w:World) (k:Nat) (a:Arc) (hk:κ g=some c) (hs:S c):Fr κ κ w (setArc w g k a) S :=
 (((Fr.set κ w hk hs).trans (Fr.set κ _ hk hs)).trans (Fr.set κ _ hk hs)).trans (Fr.set κ _ hk hs)
theorem eP (w:World) (g k:Nat) (a:Arc):w.grownBy (Go.Proofs.Yticieifacalocaa.setArc w g k a) (some g) :=
 gG (gG (gG (jY _ _ _ _) (jY _ _ _ _)) (jY _ _ _ _)) (jY _ _ _ _)
end
def lowC:Col→Prop
 | .slv | .num=>True
 | _=>False
structure LwS (κ:Kap) (w:World) (g:Nat) (s:Sol) (V:EV) (U:SV) (a:Arc) (gba gby gw go co:Nat) (κ1:Kap) (wr:World) (num:List Int) (by_:List Arc) (wait:List Bool) (g8 off n8 cap8:Nat) (q:List Int):Prop where
 m:SolM κ1 wr g { s with num:=num } V U
 ab:HB κ1 wr (.tmp 4) gba 126 a.cells.toArray
 bb:HB κ1 wr (.tmp 0) gby 126 (acs by_).toArray
 wt:HB κ1 wr (.tmp 1) gw 4 (cbs wait).toArray
 old:Hold κ1 wr (.tmp 2) 3 1 (.slice (some ⟨go,0,none⟩) s.num.length co) s.num.length (ci s.num)
 qu:QR κ1 wr 3 w.heap.size g8 off n8 cap8 q
 f:Fr κ κ1 w wr lowC
 nl:num.length=s.num.length
 bl:by_.length=s.num.length
 wl:wait.length=s.num.length
 n1:w.heap.size≤gby
 n2:w.heap.size≤gw
 n3:w.heap.size≤go
section
variable {κ κ1 κ2:Kap} {w wr w2:World} {g:Nat} {s:Sol} {V:EV} {U:SV} {a:Arc} {gba gby gw go co:Nat} {num:List Int} {by_:List Arc} {wait:List Bool} {g8 off n8 cap8:Nat} {q:List Int} {S:Col→Prop}
theorem LwS.fr (h:LwS κ w g s V U a gba gby gw go co κ1 wr num by_ wait g8 off n8 cap8 q) (f:Fr κ1 κ2 wr w2 S) (hs:∀c,wO c→¬S c) (h0:¬S (.tmp 0)) (h1:¬S (.tmp 1)) (h2:¬S (.tmp 2)) (h3:¬S (.tmp 3)) (h4:¬S (.tmp 4)) (ff:Fr κ κ2 w w2 lowC) :
  LwS κ w g s V U a gba gby gw go co κ2 w2 num by_ wait g8 off n8 cap8 q :=
 ⟨h.m.fr f hs,h.ab.fr f h4,h.bb.fr f h0,h.wt.fr f h1,h.old.fr f h2,h.qu.fr f h3,ff,h.nl,h.bl,h.wl,h.n1,h.n2,h.n3⟩
theorem LwS.drewN (h:LwS κ w g s V U a gba gby gw go co κ1 wr num by_ wait g8 off n8 cap8 q) (n:Nat):LwS κ w g s V U a gba gby gw go co κ1 (wr.drewN n) num by_ wait g8 off n8 cap8 q :=
 h.fr (Fr.drewN κ1 wr n fun _=>False) (fun _ _=>id) id id id id id (h.f.trans (Fr.drewN _ _ _ _))
theorem LwS.box (h:LwS κ w g s V U a gba gby gw go co κ1 wr num by_ wait g8 off n8 cap8 q) (cs:Array Value) (t:TypeId):LwS κ w g s V U a gba gby gw go co (kset κ1 wr.heap.size (.tmp 5)) (wr.alloc (.cells cs t)) num by_ wait g8 off n8 cap8 q∧HB (kset κ1 wr.heap.size (.tmp 5)) (wr.alloc (.cells cs t)) (.tmp 5) wr.heap.size t cs :=
 ⟨h.fr (Fr.make κ1 wr _ (.tmp 5) fun _=>False) (fun _ _=>id) id id id id id (h.f.trans (Fr.make _ _ _ _ _)),HB.new κ1 wr (.tmp 5) cs t⟩
theorem LwS.numB (h:LwS κ w g s V U a gba gby gw go co κ1 wr num by_ wait g8 off n8 cap8 q) (h0:0<s.num.length):∃gn cn,U.vn = .slice (some ⟨gn,0,none⟩) s.num.length cn∧∀i (_:i<s.num.length),wr.cell? ⟨gn,i,none⟩=some (.int .i64 (gi num (i:Int)))∧wr.frozen? ⟨gn,i,none⟩=false:=by
 obtain ⟨gn,cn,h1, -, -, -, -,h6,h7⟩:=h.m.num.open_ (by show 0<num.length;rw [h.nl];exact h0)
 have h1':U.vn = .slice (some ⟨gn,0,none⟩) num.length cn:=h1
 rw [h.nl] at h1'
 exact ⟨gn,cn,h1',fun i hi=>⟨h6 i _ (wU (eG (by show i<num.length;rw [h.nl];exact hi))),h7 i⟩⟩
theorem LwS.setNum (h:LwS κ w g s V U a gba gby gw go co κ1 wr num by_ wait g8 off n8 cap8 q) {gn cn:Nat} (hv:U.vn = .slice (some ⟨gn,0,none⟩) s.num.length cn) (i:Nat) (y:Int) :
  LwS κ w g s V U a gba gby gw go co κ1 (wr.setCell ⟨gn,i,none⟩ (.int .i64 y)) (num.set i y) by_ wait g8 off n8 cap8 q∧Fr κ1 κ1 wr (wr.setCell ⟨gn,i,none⟩ (.int .i64 y)) (fun c=>c = .num):=by
 have hk:κ1 gn=some .num:=h.m.num.k gn (by show U.vn.ownBlock=_;rw [hv];rfl)
 have f:=frs κ1 wr (i:=i) (u := .int .i64 y) hk
 have hm:=h.m.setNum (gn:=gn) (cap:=cn) (by show U.vn = .slice _ num.length _;rw [h.nl];exact hv) i y
 exact ⟨⟨hm,h.ab.fr f (by simp),h.bb.fr f (by simp),h.wt.fr f (by simp),h.old.fr f (by simp),h.qu.fr f (by simp),h.f.trans (f.mono fun c hc=>by subst hc;trivial),by rw [zX];exact h.nl,h.bl,h.wl,h.n1,h.n2,h.n3⟩,f⟩
theorem LwS.setBy (h:LwS κ w g s V U a gba gby gw go co κ1 wr num by_ wait g8 off n8 cap8 q) (i:Nat) (b:Arc) :
  LwS κ w g s V U a gba gby gw go co κ1 (setArc wr gby i b) num (by_.set i b) wait g8 off n8 cap8 q∧Fr κ1 κ1 wr (setArc wr gby i b) (fun c=>c = .tmp 0):=by
 have f:Fr κ1 κ1 wr (setArc wr gby i b) (fun c=>c = .tmp 0):=Fr.setArc κ1 wr i b h.bb.k rfl
 exact ⟨⟨h.m.fr f fun c hc e=>by subst e;exact hc,h.ab.fr f (by simp),h.bb.setArc i b,h.wt.fr f (by simp),h.old.fr f (by simp),h.qu.fr f (by simp),h.f.loc (eP wr gby i b) (fun k e=>by injection e with e;subst e;exact h.n1),h.nl,by rw [zX];exact h.bl,h.wl,h.n1,h.n2,h.n3⟩,f⟩
theorem LwS.setWait (h:LwS κ w g s V U a gba gby gw go co κ1 wr num by_ wait g8 off n8 cap8 q) (i:Nat) (b:Bool) :
  LwS κ w g s V U a gba gby gw go co κ1 (wr.setCell ⟨gw,i,none⟩ (.bool b)) num by_ (wait.set i b) g8 off n8 cap8 q∧Fr κ1 κ1 wr (wr.setCell ⟨gw,i,none⟩ (.bool b)) (fun c=>c = .tmp 1):=by
 have f:=frs κ1 wr (i:=i) (u := .bool b) h.wt.k
 refine ⟨⟨h.m.fr f fun c hc e=>by subst e;exact hc,h.ab.fr f (by simp),h.bb.fr f (by simp),?_,h.old.fr f (by simp),h.qu.fr f (by simp),h.f.loc (jY wr gw i (.bool b)) (fun k e=>by injection e with e;subst e;exact h.n2),h.nl,h.bl,by rw [zX];exact h.wl,h.n1,h.n2,h.n3⟩,f⟩
 have:=h.wt.set_ i (.bool b)
 rw [wQ,←eD] at this
 exact this
theorem LwS.pop {x:Int} (h:LwS κ w g s V U a gba gby gw go co κ1 wr num by_ wait g8 off n8 cap8 (x::q)):LwS κ w g s V U a gba gby gw go co κ1 wr num by_ wait g8 (popO off cap8) (n8-1) (cap8-1) q :=
 ⟨h.m,h.ab,h.bb,h.wt,h.old,h.qu.pop.1,h.f,h.nl,h.bl,h.wl,h.n1,h.n2,h.n3⟩
theorem LwS.push (h:LwS κ w g s V U a gba gby gw go co κ1 wr num by_ wait g8 off n8 cap8 q) (hq:q.length≤100000) (x:Int) :
  ∃g9 off9 cap9 κ2 w2,(Builtin.append_ #[33,33] 33 #[.slice (some ⟨g8,off,none⟩) n8 cap8, .slice (some ⟨wr.heap.size,0,none⟩) 1 1]).run Try.prog (wr.alloc (.cells #[.int .i64 x] 3)) = .ok (.slice (some ⟨g9,off9,none⟩) (n8+1) cap9) w2 ∧
   LwS κ w g s V U a gba gby gw go co κ2 w2 num by_ wait g9 off9 (n8+1) cap9 (q++[x]):=by
 obtain ⟨g9,off9,cap9,κ2,w2,h1,h2,h3,h4,h5⟩:=h.qu.app hq h.f.size x
 refine ⟨g9,off9,cap9,κ2,w2,h1,⟨h.m.fr h3 fun c hc e=>by subst e;exact hc,h.ab.fr h3 (by simp),h.bb.fr h3 (by simp),h.wt.fr h3 (by simp),h.old.fr h3 (by simp),h2,?_,h.nl,h.bl,h.wl,h.n1,h.n2,h.n3⟩⟩
 have f1:Fr κ κ1 w (wr.alloc (.cells #[.int .i64 x] 3)) lowC:=h.f.trans (Fr.alloc κ1 wr _ _)
 exact (f1.loc h4 (fun k e=>by injection e with e;subst e;exact h.qu.nw)).recol fun k hk=>h5 k (zZ hk h.f.size)
theorem LwS.byAt (h:LwS κ w g s V U a gba gby gw go co κ1 wr num by_ wait g8 off n8 cap8 q) (i j:Nat):wr.frozen? ⟨gby,j,none⟩=false∧(i<s.num.length→∃c0 c1 c2 c3,wr.cell? ⟨gby,i * 4,none⟩=some c0∧wr.cell? ⟨gby,i * 4+1,none⟩=some c1∧wr.cell? ⟨gby,i * 4+2,none⟩=some c2∧wr.cell? ⟨gby,i * 4+3,none⟩=some c3):=by
 refine ⟨h.bb.frozen j,fun hi => ?_⟩
 obtain ⟨d0,d1,d2,d3⟩:=nP (ga_at (l:=by_) (k:=i) (by rw [h.bl];exact hi))
 exact ⟨_,_,_,_,by rw [h.bb.cell,zA];exact d0,by rw [h.bb.cell,zA];exact d1,by rw [h.bb.cell,zA];exact d2,by rw [h.bb.cell,zA];exact d3⟩
theorem LwS.waitAt (h:LwS κ w g s V U a gba gby gw go co κ1 wr num by_ wait g8 off n8 cap8 q) {i:Nat} (hi:i<s.num.length):wr.cell? ⟨gw,i,none⟩=some (.bool (wait.getD i false))∧wr.frozen? ⟨gw,i,none⟩=false :=
 ⟨by rw [h.wt.cell,zA];exact cb_at (by rw [h.wl];exact hi),h.wt.frozen i⟩
end
end Go.Proofs.Yticieifacalocaa
