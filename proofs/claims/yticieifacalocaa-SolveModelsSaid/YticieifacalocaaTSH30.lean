/- SolStepW SolNewT -/
import Derived.Test.YticieifacalocaaTSH29
namespace Go.Proofs.Yticieifacalocaa
open Go.RowKit
theorem orgs_at:∀{os:List Org} {ps:List (Value × Value)} {c:Nat} {o:Org} {p:Value × Value},os[c]? = some o→ps[c]? = some p→∀i,i<8→(orgs os ps)[c * 8+i]? = (ocs o p)[i]? := by
 intro os
 induction os with
 | nil=>intro ps c o p h;simp at h
 | cons a r ih =>
  intro ps c o p h1 h2 i hi
  cases ps with
  | nil=>simp at h2
  | cons b q =>
   have hc:orgs (a::r) (b::q)=ocs a b++orgs r q:=rfl
   have hl:(ocs a b).length=8:=rfl
   rw [hc]
   cases c with
   | zero =>
    simp at h1 h2
    subst h1 h2
    rw [uP,qZ,zO (by omega)]
   | succ c =>
    rw [zL (by omega),hl,show (c+1) * 8+i-8=c * 8+i by omega]
    exact ih (by simpa using h1) (by simpa using h2) i hi
theorem lks_at {l:List (Nat × Int)} {k:Nat} {q:Nat × Int} (h:l[k]? = some q):(aC l)[k * 2]? = some (.int .i64 (q.1:Int))∧(aC l)[k * 2+1]? = some (.int .i64 q.2):=by
 induction l generalizing k with
 | nil=>simp at h
 | cons e r ih =>
  have hc:aC (e::r)=[.int .i64 (e.1:Int), .int .i64 e.2]++aC r:=rfl
  rw [hc]
  cases k with
  | zero=>simp at h;subst h;exact ⟨rfl,rfl⟩
  | succ k =>
   obtain ⟨h1,h2⟩:=ih (k:=k) (by simpa using h)
   refine ⟨?_,?_⟩
   ·rw [zL (by simp;omega)];simpa [show (k+1) * 2-2=k * 2 by omega] using h1
   ·rw [zL (by simp;omega)];simpa [show (k+1) * 2+1-2=k * 2+1 by omega] using h2
structure OrgRd (W:World) (g go n cap:Nat) (os:List Org) (ol:List (Value × Value)):Prop where
 q:W.cell? ⟨g,17,none⟩=some (.slice (some ⟨go,0,none⟩) n cap)
 c:∀(c:Nat) (o:Org) (p:Value × Value),os[c]? = some o→ol[c]? = some p→∀(i:Nat) (v:Value),(ocs o p)[i]? = some v→W.cell? ⟨go,c * 8+i,none⟩=some v
 s:∀(c:Nat) (o:Org) (p:Value × Value),os[c]? = some o→ol[c]? = some p→∃(Al:Option Addr) (cl:Nat) (Av:Option Addr) (cv:Nat),p=(.slice Al o.leaf.lits.length cl, .slice Av o.chain.length cv)∧o.chain.length≤cv∧cv≤maxLen∧(∀(k:Nat) (q:Nat × Int),o.chain[k]? = some q→∃gv:Nat,Av=some ⟨gv,0,none⟩∧W.cell? ⟨gv,k * 2,none⟩=some (.int .i64 (q.1:Int))∧W.cell? ⟨gv,k * 2+1,none⟩=some (.int .i64 q.2))
theorem OrgRd.of {κ:Kap} {w:World} {g:Nat} {s:Sol} {V:EV} {U:SV} (h:SolM κ w g s V U) (h0:0<s.org.length):∃go cap,s.org.length≤cap∧cap≤maxLen∧∀W,Below w.heap.size w W→OrgRd W g go s.org.length cap s.org U.ol:=by
 obtain ⟨go,cap,hv, -, -,h2,h3, -, -⟩:=h.org.open_ h0
 refine ⟨go,cap,h2,h3,fun W hb => ?_⟩
 have hW:=h.keep hb
 obtain ⟨go2,cap2,hv2, -, -, -, -,hcc, -⟩:=hW.org.open_ h0
 rw [hv] at hv2
 injection hv2 with hv2 _ _
 injection hv2 with hv2
 injection hv2 with hv2 _ _
 subst hv2
 have q:=hW.eng.cellR (i:=8) rfl
 refine ⟨by rw [←hv];exact q,fun c o p ho hp i v hi => ?_,fun c o p ho hp => ?_⟩
 ·refine hcc _ _ ?_
  have hi8:i<8:=by have:=(zG.1 hi).1;exact this
  rw [orgs_at ho hp i hi8];exact hi
 ·obtain ⟨h5,h6⟩:=hW.och c o p ho hp
  obtain ⟨Al,cl,e1, -, -⟩:=h5.shape
  obtain ⟨Av,cv,e2,e3,e4⟩:=h6.shape
  refine ⟨Al,cl,Av,cv,by rw [←e1,←e2],e3,e4,fun k q hq => ?_⟩
  obtain ⟨gv,cv2,e5, -, -, -, -,hcc2, -⟩:=h6.open_ (by have:=(zG.1 hq).1;omega)
  rw [e2] at e5
  injection e5 with e5 _ _
  obtain ⟨l1,l2⟩:=lks_at hq
  exact ⟨gv,e5,hcc2 _ _ l1,hcc2 _ _ l2⟩
def gK (org:List Org) (last:Nat):Nat→List Bool
 | 0=>(List.replicate (last+1) false).set last true
 | k+1=>needStep org (gK org last k) (last-k)
theorem nI (org:List Org) (last:Nat):gK org last (last+1)=needF org last:=by
 have key:∀k,k≤last+1→gK org last k=(((List.range (last+1)).reverse).take k).foldl (needStep org) ((List.replicate (last+1) false).set last true):=by
  intro k
  induction k with
  | zero=>intro _;rfl
  | succ k ih =>
   intro hk
   have hlt:k<((List.range (last+1)).reverse).length:=by simp;omega
   rw [gK,ih (by omega),wL (List.getElem?_eq_getElem hlt),List.foldl_append]
   simp
 rw [key _ (Nat.le_refl _)]
 unfold needF
 rw [zU (by simp)]
theorem eK (l:List (Nat × Int)):∀n:List Bool,(l.foldl (fun n (q:Nat × Int)=>n.set q.1 true) n).length=n.length:=by
 induction l with
 | nil=>intro n;rfl
 | cons q r ih=>intro n;rw [xK,ih,zX]
theorem nO (org:List Org) (need:List Bool) (c:Nat):(needStep org need c).length=need.length:=by
 unfold needStep
 split
 ·rfl
 ·split
  ·rw [eK,zX]
  ·rfl
theorem bB (org:List Org) (last:Nat):∀k,(gK org last k).length=last+1:=by
 intro k
 induction k with
 | zero=>simp [gK]
 | succ k ih=>rw [gK,nO,ih]
theorem eM (n:Nat) (h:n≤LIM) (w:World):(Instr.makeSlice 32 (.int .i64 (n:Int)) (.int .i64 (n:Int))).run Try.prog w = .ok (.slice (some ⟨w.heap.size,0,none⟩) n n) (w.alloc (.cells (cbs (List.replicate n false)).toArray 4)):=by
 unfold LIM at h
 obtain ⟨i,hi,h0,h1,h2⟩:=qD fN
 rw [dO _ _ i _ Try.underlying32 hi h0 n (by rw [h2];omega) (by omega) w,h1,bD _ (.bool false) _ (by decide) zero_b,yA]
 simp [cbs]
theorem mk_intL (n:Nat) (h:n≤LIM) (w:World):(Instr.makeSlice 33 (.int .i64 (n:Int)) (.int .i64 (n:Int))).run Try.prog w = .ok (.slice (some ⟨w.heap.size,0,none⟩) n n) (w.alloc (.cells (ci (List.replicate n 0)).toArray 3)):=by
 unfold LIM at h
 obtain ⟨i,hi,h0,h1,h2⟩:=qD wV
 rw [dO _ _ i _ Try.underlying33 hi h0 n (by rw [h2];omega) (by omega) w,h1,bD _ (.int .i64 0) _ (by decide) zero_i,yA]
 simp [ci]
theorem info_arcs:(Try.prog.info? 139).map (fun i=>(i.zero,i.size,i.bytes))=some (some (.slice none 0 0),1,24):=by kernel_rfl
theorem make_arcs {N:Nat} (hN:N≤1024) (W:World):(Instr.makeSlice 84 (.int .i64 (N:Int)) (.int .i64 (N:Int))).run Try.prog W = .ok (.slice (some ⟨W.heap.size,0,none⟩) N N) (W.alloc (.cells (List.replicate N nilS).toArray 139)):=by
 obtain ⟨i,hi,h0,h1,h2⟩:=qD info_arcs
 have:=run_makeSlice (P:=Try.prog) (w:=W) 84 139 i (.slice none 0 0) (by kernel_rfl) hi h0 .i64 .i64 N N (by omega) (by omega) (by rw [h1];omega) (by rw [h2];omega) (by omega)
 rw [this,h1]
 have e1:(N:Int).toNat=N:=by omega
 have e2:madeCells (Value.slice none 0 0).cells ((N:Int).toNat * 1)=(List.replicate N nilS).toArray:=by
  apply uI.1
  rw [e1,yA]
  have:=vG (.slice none 0 0) N
  rw [show (Value.slice none 0 0).cells = #[.slice none 0 0] from rfl,this]
  simp [nilS]
 rw [e2,e1]
def NewTRet (w:World) (N B:Nat) (en:Ending) (w':World):Prop :=
 ∃κ gn ga gc,en = .returned (.agg #[.slice (some ⟨gn,0,none⟩) N N, .slice (some ⟨ga,0,none⟩) N N, .slice (some ⟨gc,0,none⟩) B B])∧HB κ w' .num gn 3 (ci ((List.range N).map Int.ofNat)).toArray∧HB κ w' .arcs ga 139 (List.replicate N nilS).toArray∧HB κ w' .act gc 4 (cbs (List.replicate B false)).toArray∧(∀k,k<w.heap.size→κ k=none)∧Below w.heap.size w w'∧w.heap.size≤gn∧w.heap.size≤ga∧w.heap.size≤gc
def numK (N k:Nat):List Int:=(List.range k).map Int.ofNat++List.replicate (N-k) 0
theorem numK_set {N k:Nat} (h:k<N):(numK N k).set k (k:Int)=numK N (k+1):=by
 unfold numK
 obtain ⟨m,hm⟩:∃m,N-k=m+1:=⟨N-k-1,by omega⟩
 have hm2:N-(k+1)=m:=by omega
 rw [hm,hm2,kL _ _ (by simp),List.length_map,List.length_range,xX,yE,zE,List.range_succ,List.map_append,qB]
 rfl
theorem numK_len {N k:Nat} (h:k≤N):(numK N k).length=N:=by simp [numK];omega
theorem numK_all (N:Nat):numK N N=(List.range N).map Int.ofNat:=by simp [numK]
structure NT (w1:World) (b0 N B:Nat) (κ:Kap) (w:World) (p0 p1 p2 p3 p4 p5 p6 p7 p8 p9 p10 p11:Bool) (x3 x5 x6 x7 x8 x9 x10 x11 x12 x13 x14:Value):Prop where
 f:Fr (kr (b0+1)) κ w1 w (fun s=>s = .slv)
 d0:p0=true→x5 = .pointer (some ⟨b0,0,none⟩)
 d3:p3=true→x8 = .pointer (some ⟨b0,0,none⟩)
 d6:p6=true→x11 = .pointer (some ⟨b0,1,none⟩)
 d1:p1=true→x6 = .int .i64 (N:Int)
 d4:p4=true→x9 = .int .i64 (N:Int)
 d7:p7=true→x12 = .int .i64 (B:Int)
 d2:p2=true→∃b,x7 = .slice (some ⟨b,0,none⟩) N N∧HB κ w .num b 3 (ci (List.replicate N 0)).toArray
 d5:p5=true→∃b,x10 = .slice (some ⟨b,0,none⟩) N N∧HB κ w .arcs b 139 (List.replicate N nilS).toArray
 d8:p8=true→∃b,x13 = .slice (some ⟨b,0,none⟩) B B∧HB κ w .act b 4 (cbs (List.replicate B false)).toArray
 d9:p9=true→p2=true∧p5=true∧p8=true∧x14 = .agg #[x7,x10,x13]
 d10:p10=true→∃b,x3 = .pointer (some ⟨b,0,none⟩)∧HB κ w .slv b 86 (if p11=true then #[x7,x10,x13] else #[nilS,nilS,nilS])
 d11:p11=true→p9=true∧p10=true
section
variable {w1:World} {b0 N B:Nat} {κ κ':Kap} {w w':World} {p0 p1 p2 p3 p4 p5 p6 p7 p8 p9 p10 p11:Bool} {x3 x5 x6 x7 x8 x9 x10 x11 x12 x13 x14:Value}
theorem NT.grow (h:NT w1 b0 N B κ w p0 p1 p2 p3 p4 p5 p6 p7 p8 p9 p10 p11 x3 x5 x6 x7 x8 x9 x10 x11 x12 x13 x14) (f:Fr κ κ' w w' (fun _=>False)):NT w1 b0 N B κ' w' p0 p1 p2 p3 p4 p5 p6 p7 p8 p9 p10 p11 x3 x5 x6 x7 x8 x9 x10 x11 x12 x13 x14:=by
 refine ⟨h.f.trans (f.mono fun s hs=>hs.elim),h.d0,h.d3,h.d6,h.d1,h.d4,h.d7,fun hp => ?_,fun hp => ?_,fun hp => ?_,h.d9,fun hp => ?_,h.d11⟩
 ·obtain ⟨m,h1,h2⟩:=h.d2 hp;exact ⟨m,h1,h2.fr f id⟩
 ·obtain ⟨m,h1,h2⟩:=h.d5 hp;exact ⟨m,h1,h2.fr f id⟩
 ·obtain ⟨m,h1,h2⟩:=h.d8 hp;exact ⟨m,h1,h2.fr f id⟩
 ·obtain ⟨m,h1,h2⟩:=h.d10 hp;exact ⟨m,h1,h2.fr f id⟩
theorem NT.s0 (h:NT w1 b0 N B κ w p0 p1 p2 p3 p4 p5 p6 p7 p8 p9 p10 p11 x3 x5 x6 x7 x8 x9 x10 x11 x12 x13 x14) (_hp0:p0=false):∃κ',NT w1 b0 N B κ' w true p1 p2 p3 p4 p5 p6 p7 p8 p9 p10 p11 x3 (.pointer (some ⟨b0,0,none⟩)) x6 x7 x8 x9 x10 x11 x12 x13 x14:=by
 exact ⟨κ,⟨h.f,fun _=>rfl,h.d3,h.d6,h.d1,h.d4,h.d7,h.d2,h.d5,h.d8,h.d9,h.d10,h.d11⟩⟩
theorem NT.s3 (h:NT w1 b0 N B κ w p0 p1 p2 p3 p4 p5 p6 p7 p8 p9 p10 p11 x3 x5 x6 x7 x8 x9 x10 x11 x12 x13 x14) (_hp3:p3=false):∃κ',NT w1 b0 N B κ' w p0 p1 p2 true p4 p5 p6 p7 p8 p9 p10 p11 x3 x5 x6 x7 (.pointer (some ⟨b0,0,none⟩)) x9 x10 x11 x12 x13 x14:=by
 exact ⟨κ,⟨h.f,h.d0,fun _=>rfl,h.d6,h.d1,h.d4,h.d7,h.d2,h.d5,h.d8,h.d9,h.d10,h.d11⟩⟩
theorem NT.s6 (h:NT w1 b0 N B κ w p0 p1 p2 p3 p4 p5 p6 p7 p8 p9 p10 p11 x3 x5 x6 x7 x8 x9 x10 x11 x12 x13 x14) (_hp6:p6=false):∃κ',NT w1 b0 N B κ' w p0 p1 p2 p3 p4 p5 true p7 p8 p9 p10 p11 x3 x5 x6 x7 x8 x9 x10 (.pointer (some ⟨b0,1,none⟩)) x12 x13 x14:=by
 exact ⟨κ,⟨h.f,h.d0,h.d3,fun _=>rfl,h.d1,h.d4,h.d7,h.d2,h.d5,h.d8,h.d9,h.d10,h.d11⟩⟩
theorem NT.s1 (h:NT w1 b0 N B κ w p0 p1 p2 p3 p4 p5 p6 p7 p8 p9 p10 p11 x3 x5 x6 x7 x8 x9 x10 x11 x12 x13 x14) (_hp1:p1=false):∃κ',NT w1 b0 N B κ' w p0 true p2 p3 p4 p5 p6 p7 p8 p9 p10 p11 x3 x5 (.int .i64 (N:Int)) x7 x8 x9 x10 x11 x12 x13 x14:=by
 exact ⟨κ,⟨h.f,h.d0,h.d3,h.d6,fun _=>rfl,h.d4,h.d7,h.d2,h.d5,h.d8,h.d9,h.d10,h.d11⟩⟩
theorem NT.s4 (h:NT w1 b0 N B κ w p0 p1 p2 p3 p4 p5 p6 p7 p8 p9 p10 p11 x3 x5 x6 x7 x8 x9 x10 x11 x12 x13 x14) (_hp4:p4=false):∃κ',NT w1 b0 N B κ' w p0 p1 p2 p3 true p5 p6 p7 p8 p9 p10 p11 x3 x5 x6 x7 x8 (.int .i64 (N:Int)) x10 x11 x12 x13 x14:=by
 exact ⟨κ,⟨h.f,h.d0,h.d3,h.d6,h.d1,fun _=>rfl,h.d7,h.d2,h.d5,h.d8,h.d9,h.d10,h.d11⟩⟩
theorem NT.s7 (h:NT w1 b0 N B κ w p0 p1 p2 p3 p4 p5 p6 p7 p8 p9 p10 p11 x3 x5 x6 x7 x8 x9 x10 x11 x12 x13 x14) (_hp7:p7=false):∃κ',NT w1 b0 N B κ' w p0 p1 p2 p3 p4 p5 p6 true p8 p9 p10 p11 x3 x5 x6 x7 x8 x9 x10 x11 (.int .i64 (B:Int)) x13 x14:=by
 exact ⟨κ,⟨h.f,h.d0,h.d3,h.d6,h.d1,h.d4,fun _=>rfl,h.d2,h.d5,h.d8,h.d9,h.d10,h.d11⟩⟩
theorem NT.s2 (h:NT w1 b0 N B κ w p0 p1 p2 p3 p4 p5 p6 p7 p8 p9 p10 p11 x3 x5 x6 x7 x8 x9 x10 x11 x12 x13 x14) (hp2:p2=false):∃κ',NT w1 b0 N B κ' (w.alloc (.cells (ci (List.replicate N 0)).toArray 3)) p0 p1 true p3 p4 p5 p6 p7 p8 p9 p10 p11 x3 x5 x6 (.slice (some ⟨w.heap.size,0,none⟩) N N) x8 x9 x10 x11 x12 x13 x14:=by
 have g:=h.grow (Fr.make κ w ((.cells (ci (List.replicate N 0)).toArray 3)) .num _)
 exact ⟨_,⟨g.f,g.d0,g.d3,g.d6,g.d1,g.d4,g.d7,fun _=>⟨_,rfl,HB.new κ w .num _ _⟩,g.d5,g.d8,fun hp=>by have:=h.d9 hp;simp_all,fun hp=>by obtain ⟨b,e1,e2⟩:=g.d10 hp;refine ⟨b,e1,?_⟩;by_cases e3:p11=true;(· exfalso;have q1:=h.d11 e3;have q2:=h.d9 q1.1;simp_all);(rw [if_neg e3] at e2 ⊢;exact e2),g.d11⟩⟩
theorem NT.s5 (h:NT w1 b0 N B κ w p0 p1 p2 p3 p4 p5 p6 p7 p8 p9 p10 p11 x3 x5 x6 x7 x8 x9 x10 x11 x12 x13 x14) (hp5:p5=false):∃κ',NT w1 b0 N B κ' (w.alloc (.cells (List.replicate N nilS).toArray 139)) p0 p1 p2 p3 p4 true p6 p7 p8 p9 p10 p11 x3 x5 x6 x7 x8 x9 (.slice (some ⟨w.heap.size,0,none⟩) N N) x11 x12 x13 x14:=by
 have g:=h.grow (Fr.make κ w ((.cells (List.replicate N nilS).toArray 139)) .arcs _)
 exact ⟨_,⟨g.f,g.d0,g.d3,g.d6,g.d1,g.d4,g.d7,g.d2,fun _=>⟨_,rfl,HB.new κ w .arcs _ _⟩,g.d8,fun hp=>by have:=h.d9 hp;simp_all,fun hp=>by obtain ⟨b,e1,e2⟩:=g.d10 hp;refine ⟨b,e1,?_⟩;by_cases e3:p11=true;(· exfalso;have q1:=h.d11 e3;have q2:=h.d9 q1.1;simp_all);(rw [if_neg e3] at e2 ⊢;exact e2),g.d11⟩⟩
theorem NT.s8 (h:NT w1 b0 N B κ w p0 p1 p2 p3 p4 p5 p6 p7 p8 p9 p10 p11 x3 x5 x6 x7 x8 x9 x10 x11 x12 x13 x14) (hp8:p8=false):∃κ',NT w1 b0 N B κ' (w.alloc (.cells (cbs (List.replicate B false)).toArray 4)) p0 p1 p2 p3 p4 p5 p6 p7 true p9 p10 p11 x3 x5 x6 x7 x8 x9 x10 x11 x12 (.slice (some ⟨w.heap.size,0,none⟩) B B) x14:=by
 have g:=h.grow (Fr.make κ w ((.cells (cbs (List.replicate B false)).toArray 4)) .act _)
 exact ⟨_,⟨g.f,g.d0,g.d3,g.d6,g.d1,g.d4,g.d7,g.d2,g.d5,fun _=>⟨_,rfl,HB.new κ w .act _ _⟩,fun hp=>by have:=h.d9 hp;simp_all,fun hp=>by obtain ⟨b,e1,e2⟩:=g.d10 hp;refine ⟨b,e1,?_⟩;by_cases e3:p11=true;(· exfalso;have q1:=h.d11 e3;have q2:=h.d9 q1.1;simp_all);(rw [if_neg e3] at e2 ⊢;exact e2),g.d11⟩⟩
theorem NT.s9 (h:NT w1 b0 N B κ w p0 p1 p2 p3 p4 p5 p6 p7 p8 p9 p10 p11 x3 x5 x6 x7 x8 x9 x10 x11 x12 x13 x14) (_hp9:p9=false) (h2:p2=true) (h5:p5=true) (h8:p8=true):∃κ',NT w1 b0 N B κ' w p0 p1 p2 p3 p4 p5 p6 p7 p8 true p10 p11 x3 x5 x6 x7 x8 x9 x10 x11 x12 x13 (.agg #[x7,x10,x13]):=by
 exact ⟨κ,⟨h.f,h.d0,h.d3,h.d6,h.d1,h.d4,h.d7,h.d2,h.d5,h.d8,fun _=>⟨h2,h5,h8,rfl⟩,h.d10,fun hp=>⟨rfl,(h.d11 hp).2⟩⟩⟩
theorem NT.s10 (h:NT w1 b0 N B κ w p0 p1 p2 p3 p4 p5 p6 p7 p8 p9 p10 p11 x3 x5 x6 x7 x8 x9 x10 x11 x12 x13 x14) (hp10:p10=false):∃κ',NT w1 b0 N B κ' (w.alloc (.cells #[nilS,nilS,nilS] 86)) p0 p1 p2 p3 p4 p5 p6 p7 p8 p9 true p11 (.pointer (some ⟨w.heap.size,0,none⟩)) x5 x6 x7 x8 x9 x10 x11 x12 x13 x14:=by
 have g:=h.grow (Fr.make κ w ((.cells #[nilS,nilS,nilS] 86)) .slv _)
 exact ⟨_,⟨g.f,g.d0,g.d3,g.d6,g.d1,g.d4,g.d7,g.d2,g.d5,g.d8,g.d9,fun _=>⟨_,rfl,by rw [if_neg (fun e=>by have:=h.d11 e;simp_all)];exact HB.new κ w .slv _ _⟩,fun hp=>by have:=h.d11 hp;simp_all⟩⟩
theorem NT.s11 (h:NT w1 b0 N B κ w p0 p1 p2 p3 p4 p5 p6 p7 p8 p9 p10 p11 x3 x5 x6 x7 x8 x9 x10 x11 x12 x13 x14) {b:Nat} (hb:HB κ w .slv b 86 #[nilS,nilS,nilS]) (hx:x3 = .pointer (some ⟨b,0,none⟩)) (h9:p9=true) (h10:p10=true):NT w1 b0 N B κ (w.setRow b #[x7,x10,x13]) p0 p1 p2 p3 p4 p5 p6 p7 p8 p9 p10 true x3 x5 x6 x7 x8 x9 x10 x11 x12 x13 x14:=by
 have f:Fr κ κ w (w.setRow b #[x7,x10,x13]) (fun s=>s = .slv):=Fr.row κ w hb.k rfl
 refine ⟨h.f.trans f,h.d0,h.d3,h.d6,h.d1,h.d4,h.d7,fun hp => ?_,fun hp => ?_,fun hp => ?_,h.d9,fun _=>⟨b,hx,by rw [if_pos rfl];exact hb.row _⟩,fun _=>⟨h9,h10⟩⟩
 ·obtain ⟨m,h1,h2⟩:=h.d2 hp;exact ⟨m,h1,h2.fr f (by simp)⟩
 ·obtain ⟨m,h1,h2⟩:=h.d5 hp;exact ⟨m,h1,h2.fr f (by simp)⟩
 ·obtain ⟨m,h1,h2⟩:=h.d8 hp;exact ⟨m,h1,h2.fr f (by simp)⟩
end
set_option maxRecDepth 100000 in
set_option maxHeartbeats 8000000 in
theorem mD {N B:Nat} (hN:N≤1024) (hB:B≤1024) (av cv:Value) (w:World) :
  Calls Try.prog 55 #[.agg #[.int .i64 (N:Int), .int .i64 (B:Int),av,cv]] w (NewTRet w N B):=by
 have h8:=eM B (by unfold LIM;omega)
 have h6:=eW hN
 have h7:=make_arcs hN
 go_enter Try.func55,Try.ntmps55
 go_upto_region 1 with fail
 obtain ⟨w1,hw1⟩:∃w1,w1=((w.alloc (.cells #[.int .i64 (N:Int), .int .i64 (B:Int),av,cv] 29)).alloc (.cells #[nilS,nilS,nilS] 86)):=⟨_,rfl⟩
 have hsz:w1.heap.size=w.heap.size+2:=by rw [hw1];simp
 have hq:w1.cell? ⟨w.heap.size,0,none⟩=some (.int .i64 (N:Int))∧w1.cell? ⟨w.heap.size,1,none⟩=some (.int .i64 (B:Int)):=by rw [hw1];simp
 unfold nilS at hw1
 rw [←hw1]
 have HW1:=Lib.hid hw1
 clear hw1
 refine aS (by kernel_rfl) (fun l a W=>∃(κ:Kap) (p0 p1 p2 p3 p4 p5 p6 p7 p8 p9 p10 p11:Bool) (x3 x5 x6 x7 x8 x9 x10 x11 x12 x13 x14:Value),l = #[p0,p1,p2,p3,p4,p5,p6,p7,p8,p9,p10,p11]∧a={ tmps := #[.agg #[.int .i64 (N:Int), .int .i64 (B:Int),av,cv], .pointer (some ⟨w.heap.size,0,none⟩), .pointer (some ⟨w.heap.size+1,0,none⟩),x3,undef,x5,x6,x7,x8,x9,x10,x11,x12,x13,x14,undef,undef,undef,undef,undef,undef,undef,undef,undef,undef,undef,undef,undef],defers:=[] }∧Hid (NT w1 w.heap.size N B κ W p0 p1 p2 p3 p4 p5 p6 p7 p8 p9 p10 p11 x3 x5 x6 x7 x8 x9 x10 x11 x12 x13 x14)) ?_ ?_ ?_
 ·exact ⟨kr (w.heap.size+1),false,false,false,false,false,false,false,false,false,false,false,false,undef,undef,undef,undef,undef,undef,undef,undef,undef,undef,undef,rfl,rfl,Lib.hid ⟨Fr.drew _ _ _,fun h=>(by cases h),fun h=>(by cases h),fun h=>(by cases h),fun h=>(by cases h),fun h=>(by cases h),fun h=>(by cases h),fun h=>(by cases h),fun h=>(by cases h),fun h=>(by cases h),fun h=>(by cases h),fun h=>(by cases h),fun h=>(by cases h)⟩⟩
 ·rintro l a W i ⟨κ,p0,p1,p2,p3,p4,p5,p6,p7,p8,p9,p10,p11,x3,x5,x6,x7,x8,x9,x10,x11,x12,x13,x14,rfl,rfl,H⟩ hi
  have hlt:=rO hi
  have hlt:i<12:=hlt
  have hqW:W.cell? ⟨w.heap.size,0,none⟩=some (.int .i64 (N:Int))∧W.cell? ⟨w.heap.size,1,none⟩=some (.int .i64 (B:Int)):=by
   have hbl:=H.out.f.blk w.heap.size (by omega) fun s e=>by rw [fT (by omega)] at e;cases e
   rw [yK (a:=⟨w.heap.size,0,none⟩) hbl,yK (a:=⟨w.heap.size,1,none⟩) hbl];exact hq
  obtain ⟨hqW0,hqW1⟩:=hqW
  rcases (by omega:i=0∨i=1∨i=2∨i=3∨i=4∨i=5∨i=6∨i=7∨i=8∨i=9∨i=10∨i=11) with rfl|rfl|rfl|rfl|rfl|rfl|rfl|rfl|rfl|rfl|rfl|rfl
  ·have hp:p0=false:=by simpa using wH hi
   clear hi hlt
   obtain ⟨κ',hN⟩:=H.out.s0 hp
   have HN:=Lib.hid hN
   clear hN hp
   refine yD rfl (fun K hK => ?_)
   go_simp
   exact hK _ _ ⟨κ',true,p1,p2,p3,p4,p5,p6,p7,p8,p9,p10,p11,_,_,_,_,_,_,_,_,_,_,_,rfl,rfl,HN⟩
  ·have hp:p1=false:=by simpa using wH hi
   have e0:p0=true:=by simpa using wM hi 0 (by kernel_rfl)
   clear hi hlt
   obtain rfl:=H.out.d0 e0
   clear e0
   obtain ⟨κ',hN⟩:=H.out.s1 hp
   have HN:=Lib.hid hN
   clear hN hp
   refine yD rfl (fun K hK => ?_)
   go_simp
   exact hK _ _ ⟨κ',p0,true,p2,p3,p4,p5,p6,p7,p8,p9,p10,p11,_,_,_,_,_,_,_,_,_,_,_,rfl,rfl,HN⟩
  ·have hp:p2=false:=by simpa using wH hi
   have e1:p1=true:=by simpa using wM hi 1 (by kernel_rfl)
   clear hi hlt
   obtain rfl:=H.out.d1 e1
   clear e1
   obtain ⟨κ',hN⟩:=H.out.s2 hp
   have HN:=Lib.hid hN
   clear hN hp
   refine yD rfl (fun K hK => ?_)
   go_simp
   exact hK _ _ ⟨κ',p0,p1,true,p3,p4,p5,p6,p7,p8,p9,p10,p11,_,_,_,_,_,_,_,_,_,_,_,rfl,rfl,HN⟩
  ·have hp:p3=false:=by simpa using wH hi
   clear hi hlt
   obtain ⟨κ',hN⟩:=H.out.s3 hp
   have HN:=Lib.hid hN
   clear hN hp
   refine yD rfl (fun K hK => ?_)
   go_simp
   exact hK _ _ ⟨κ',p0,p1,p2,true,p4,p5,p6,p7,p8,p9,p10,p11,_,_,_,_,_,_,_,_,_,_,_,rfl,rfl,HN⟩
  ·have hp:p4=false:=by simpa using wH hi
   have e3:p3=true:=by simpa using wM hi 3 (by kernel_rfl)
   clear hi hlt
   obtain rfl:=H.out.d3 e3
   clear e3
   obtain ⟨κ',hN⟩:=H.out.s4 hp
   have HN:=Lib.hid hN
   clear hN hp
   refine yD rfl (fun K hK => ?_)
   go_simp
   exact hK _ _ ⟨κ',p0,p1,p2,p3,true,p5,p6,p7,p8,p9,p10,p11,_,_,_,_,_,_,_,_,_,_,_,rfl,rfl,HN⟩
  ·have hp:p5=false:=by simpa using wH hi
   have e4:p4=true:=by simpa using wM hi 4 (by kernel_rfl)
   clear hi hlt
   obtain rfl:=H.out.d4 e4
   clear e4
   obtain ⟨κ',hN⟩:=H.out.s5 hp
   have HN:=Lib.hid hN
   clear hN hp
   refine yD rfl (fun K hK => ?_)
   go_simp
   exact hK _ _ ⟨κ',p0,p1,p2,p3,p4,true,p6,p7,p8,p9,p10,p11,_,_,_,_,_,_,_,_,_,_,_,rfl,rfl,HN⟩
  ·have hp:p6=false:=by simpa using wH hi
   clear hi hlt
   obtain ⟨κ',hN⟩:=H.out.s6 hp
   have HN:=Lib.hid hN
   clear hN hp
   refine yD rfl (fun K hK => ?_)
   go_simp
   exact hK _ _ ⟨κ',p0,p1,p2,p3,p4,p5,true,p7,p8,p9,p10,p11,_,_,_,_,_,_,_,_,_,_,_,rfl,rfl,HN⟩
  ·have hp:p7=false:=by simpa using wH hi
   have e6:p6=true:=by simpa using wM hi 6 (by kernel_rfl)
   clear hi hlt
   obtain rfl:=H.out.d6 e6
   clear e6
   obtain ⟨κ',hN⟩:=H.out.s7 hp
   have HN:=Lib.hid hN
   clear hN hp
   refine yD rfl (fun K hK => ?_)
   go_simp
   exact hK _ _ ⟨κ',p0,p1,p2,p3,p4,p5,p6,true,p8,p9,p10,p11,_,_,_,_,_,_,_,_,_,_,_,rfl,rfl,HN⟩
  ·have hp:p8=false:=by simpa using wH hi
   have e7:p7=true:=by simpa using wM hi 7 (by kernel_rfl)
   clear hi hlt
   obtain rfl:=H.out.d7 e7
   clear e7
   obtain ⟨κ',hN⟩:=H.out.s8 hp
   have HN:=Lib.hid hN
   clear hN hp
   refine yD rfl (fun K hK => ?_)
   go_simp
   exact hK _ _ ⟨κ',p0,p1,p2,p3,p4,p5,p6,p7,true,p9,p10,p11,_,_,_,_,_,_,_,_,_,_,_,rfl,rfl,HN⟩
  ·have hp:p9=false:=by simpa using wH hi
   have e2:p2=true:=by simpa using wM hi 2 (by kernel_rfl)
   have e5:p5=true:=by simpa using wM hi 5 (by kernel_rfl)
   have e8:p8=true:=by simpa using wM hi 8 (by kernel_rfl)
   clear hi hlt
   obtain ⟨b2,h7, -⟩:=H.out.d2 e2
   obtain ⟨b5,h10, -⟩:=H.out.d5 e5
   obtain ⟨b8,h13, -⟩:=H.out.d8 e8
   subst h7 h10 h13
   have HX:=Lib.hid (And.intro e2 (And.intro e5 e8))
   clear e2 e5 e8
   obtain ⟨κ',hN⟩:=H.out.s9 hp HX.out.1 HX.out.2.1 HX.out.2.2
   have HN:=Lib.hid hN
   clear hN hp
   refine yD rfl (fun K hK => ?_)
   go_simp
   exact hK _ _ ⟨κ',p0,p1,p2,p3,p4,p5,p6,p7,p8,true,p10,p11,_,_,_,_,_,_,_,_,_,_,_,rfl,rfl,HN⟩
  ·have hp:p10=false:=by simpa using wH hi
   clear hi hlt
   obtain ⟨κ',hN⟩:=H.out.s10 hp
   have HN:=Lib.hid hN
   clear hN hp
   refine yD rfl (fun K hK => ?_)
   go_simp
   exact hK _ _ ⟨κ',p0,p1,p2,p3,p4,p5,p6,p7,p8,p9,true,p11,_,_,_,_,_,_,_,_,_,_,_,rfl,rfl,HN⟩
  ·have hp:p11=false:=by simpa using wH hi
   have e9:p9=true:=by simpa using wM hi 9 (by kernel_rfl)
   have e10:p10=true:=by simpa using wM hi 10 (by kernel_rfl)
   clear hi hlt
   obtain ⟨-, -, -,h14⟩:=H.out.d9 e9
   obtain ⟨b,h3,hb⟩:=H.out.d10 e10
   rw [if_neg (by rw [hp];simp)] at hb
   have HN:=Lib.hid (H.out.s11 hb h3 e9 e10)
   obtain ⟨b2,h7, -⟩:=H.out.d2 (H.out.d9 e9).1
   obtain ⟨b5,h10, -⟩:=H.out.d5 (H.out.d9 e9).2.1
   obtain ⟨b8,h13, -⟩:=H.out.d8 (H.out.d9 e9).2.2.1
   have hbb:=hb.b
   subst h14 h3 h7 h10 h13
   clear e9 e10 hp hb
   refine yD rfl (fun K hK => ?_)
   rw [if_pos (by rfl)]
   refine wp_store_row 86 (.tmp 3) (.tmp 14) rfl b _ rfl rfl 86 _ hbb (by kernel_rfl) rfl (by simp [Value.oneCell']) ?_
   exact hK _ _ ⟨κ,p0,p1,p2,p3,p4,p5,p6,p7,p8,p9,p10,true,_,_,_,_,_,_,_,_,_,_,_,rfl,rfl,HN⟩
 ·rintro l a W ⟨κ,p0,p1,p2,p3,p4,p5,p6,p7,p8,p9,p10,p11,x3,x5,x6,x7,x8,x9,x10,x11,x12,x13,x14,rfl,rfl,H⟩ hr
  obtain rfl:p0=true:=by simpa using wI hr 0 _ rfl (by simp [Region.binds])
  obtain rfl:p1=true:=by simpa using wI hr 1 _ rfl (by simp [Region.binds])
  obtain rfl:p2=true:=by simpa using wI hr 2 _ rfl (by simp [Region.binds])
  obtain rfl:p3=true:=by simpa using wI hr 3 _ rfl (by simp [Region.binds])
  obtain rfl:p4=true:=by simpa using wI hr 4 _ rfl (by simp [Region.binds])
  obtain rfl:p5=true:=by simpa using wI hr 5 _ rfl (by simp [Region.binds])
  obtain rfl:p6=true:=by simpa using wI hr 6 _ rfl (by simp [Region.binds])
  obtain rfl:p7=true:=by simpa using wI hr 7 _ rfl (by simp [Region.binds])
  obtain rfl:p8=true:=by simpa using wI hr 8 _ rfl (by simp [Region.binds])
  obtain rfl:p9=true:=by simpa using wI hr 9 _ rfl (by simp [Region.binds])
  obtain rfl:p10=true:=by simpa using wI hr 10 _ rfl (by simp [Region.binds])
  obtain rfl:p11=true:=by simpa using wI hr 11 _ rfl (by simp [Region.binds])
  obtain ⟨b2,rfl,hb2⟩:=H.out.d2 rfl
  obtain ⟨b5,rfl,hb5⟩:=H.out.d5 rfl
  obtain ⟨b8,rfl,hb8⟩:=H.out.d8 rfl
  obtain ⟨-, -, -,h14⟩:=H.out.d9 rfl
  obtain ⟨b,rfl,hb⟩:=H.out.d10 rfl
  rw [if_pos rfl] at hb
  have HR:Hid (HB κ W .num b2 3 (ci (numK N 0)).toArray∧HB κ W .arcs b5 139 (List.replicate N nilS).toArray∧HB κ W .act b8 4 (cbs (List.replicate B false)).toArray∧HB κ W .slv b 86 #[.slice (some ⟨b2,0,none⟩) N N, .slice (some ⟨b5,0,none⟩) N N, .slice (some ⟨b8,0,none⟩) B B]):=Lib.hid ⟨by simpa [numK] using hb2,hb5,hb8,hb⟩
  have HF:=Lib.hid H.out.f
  clear H hr hb2 hb5 hb8 hb h14
  have q0:=HR.out.2.2.2.cell 0
  simp only [zA,zB] at q0
  go_upto_region 3 with fail
  clear q0
  go_loopw [18] (fun i wr=>∃k:Nat,k≤N∧i = .int .i64 k∧Hid (HB κ wr .num b2 3 (ci (numK N k)).toArray∧HB κ wr .arcs b5 139 (List.replicate N nilS).toArray∧HB κ wr .act b8 4 (cbs (List.replicate B false)).toArray∧HB κ wr .slv b 86 #[.slice (some ⟨b2,0,none⟩) N N, .slice (some ⟨b5,0,none⟩) N N, .slice (some ⟨b8,0,none⟩) B B]∧Fr (kr (w.heap.size+1)) κ w1 wr (fun s=>s = .slv∨s = .num))) (fun i _=>N-(intOf i).toNat)
  case atStart=>exact ⟨0,zQ _,rfl,Lib.hid ⟨HR.out.1,HR.out.2.1,HR.out.2.2.1,HR.out.2.2.2,HF.out.mono fun s hs => .inl hs⟩⟩
  case round =>
   clear HR HF
   obtain ⟨k,hk,rfl,HS⟩:=hrel
   by_cases hlt:k<N
   ·obtain ⟨s1,s2,s3,s4,s5⟩:=HS.out
    have q0:=s4.cell 0
    simp only [zA,zB] at q0
    obtain ⟨y,hy⟩:∃y,(numK N k)[k]? = some y:=⟨_,List.getElem?_eq_getElem (by rw [numK_len hk];exact hlt)⟩
    have qr:=s1.cell k
    rw [zA,wU hy] at qr
    have zr:=s1.frozen k
    have y1:(k:Int)<(N:Int):=by omega
    have HS2:Hid (HB κ (wr.setCell ⟨b2,k,none⟩ (.int .i64 (k:Int))) .num b2 3 (ci (numK N (k+1))).toArray∧HB κ (wr.setCell ⟨b2,k,none⟩ (.int .i64 (k:Int))) .arcs b5 139 (List.replicate N nilS).toArray∧HB κ (wr.setCell ⟨b2,k,none⟩ (.int .i64 (k:Int))) .act b8 4 (cbs (List.replicate B false)).toArray∧HB κ (wr.setCell ⟨b2,k,none⟩ (.int .i64 (k:Int))) .slv b 86 #[.slice (some ⟨b2,0,none⟩) N N, .slice (some ⟨b5,0,none⟩) N N, .slice (some ⟨b8,0,none⟩) B B]∧Fr (kr (w.heap.size+1)) κ w1 (wr.setCell ⟨b2,k,none⟩ (.int .i64 (k:Int))) (fun s=>s = .slv∨s = .num)):=by
     have f:=frs κ wr (i:=k) (u := .int .i64 (k:Int)) s1.k
     refine Lib.hid ⟨?_,s2.fr f (by simp),s3.fr f (by simp),s4.fr f (by simp),s5.trans (f.mono fun s hs => .inr hs)⟩
     have:=s1.set_ k (.int .i64 (k:Int))
     rw [wQ,←bN,numK_set hlt] at this
     exact this
    clear HS s1 s2 s3 s4 s5 hy
    go_wp2_with fail
    go_roundw
    case rel=>exact ⟨k+1,by omega,by go_num,HS2⟩
    case measure=>simp [intOf];omega
   ·have hkB:k=N:=by omega
    subst hkB
    have y1:¬k<k:=by omega
    obtain ⟨s1,s2,s3,s4,s5⟩:=HS.out
    rw [numK_all] at s1
    have e0:=s4.cell 0
    have e1:=s4.cell 1
    have e2:=s4.cell 2
    simp only [zA,zB,zC] at e0 e1 e2
    have hrb:wr.heap[w.heap.size+1]? = some (.cells #[.slice none 0 0, .slice none 0 0, .slice none 0 0] 86):=by
     rw [s5.blk _ (by omega) (fun s e=>(by rw [kr_at] at e;injection e with e;subst e;simp)),HW1.out,show w.heap.size+1=(w.alloc (.cells #[.int .i64 (k:Int), .int .i64 (B:Int),av,cv] 29)).heap.size by simp]
     exact Blk.new _ _ _
    have HX:=Lib.hid (And.intro s1 (And.intro s2 (And.intro s3 s5)))
    clear HS s1 s2 s3 s4 s5 hlt
    go_upto_region 7 with fail
    go_step
    go_step
    go_step
    go_step
    refine kF rfl 86 (.tmp 2) (.tmp 27) rfl (w.heap.size+1) #[.slice (some ⟨b2,0,none⟩) k k, .slice (some ⟨b5,0,none⟩) k k, .slice (some ⟨b8,0,none⟩) B B] rfl rfl 86 _ hrb (by kernel_rfl) rfl (by simp [Value.oneCell']) ?_
    have hr9:Blk (wr.setRow (w.heap.size+1) #[.slice (some ⟨b2,0,none⟩) k k, .slice (some ⟨b5,0,none⟩) k k, .slice (some ⟨b8,0,none⟩) B B]) (w.heap.size+1) 86 #[.slice (some ⟨b2,0,none⟩) k k, .slice (some ⟨b5,0,none⟩) k k, .slice (some ⟨b8,0,none⟩) B B]:=vJ wr _ _ _ _ _ hrb
    have hFIN:NewTRet w k B (.returned (.agg #[.slice (some ⟨b2,0,none⟩) k k, .slice (some ⟨b5,0,none⟩) k k, .slice (some ⟨b8,0,none⟩) B B])) (wr.setRow (w.heap.size+1) #[.slice (some ⟨b2,0,none⟩) k k, .slice (some ⟨b5,0,none⟩) k k, .slice (some ⟨b8,0,none⟩) B B]):=by
     have hkr:κ (w.heap.size+1)=some .acty:=(HX.out.2.2.2.ext _ (by omega)).trans kr_at
     have fr:=Fr.row κ wr (cs := #[.slice (some ⟨b2,0,none⟩) k k, .slice (some ⟨b5,0,none⟩) k k, .slice (some ⟨b8,0,none⟩) B B]) (S:=fun s=>s = .acty) hkr rfl
     have hnew:∀(c:Col) (j:Nat),κ j=some c→w.heap.size≤j:=fun c j hj=>by
      rcases xW j w.heap.size with h|h
      ·rw [HX.out.2.2.2.ext j (by omega),fT (by omega)] at hj
       cases hj
      ·exact h
     refine ⟨κ,b2,b5,b8,rfl,HX.out.1.fr fr (by simp),HX.out.2.1.fr fr (by simp),HX.out.2.2.1.fr fr (by simp),fun j hj => ?_,?_,hnew _ _ HX.out.1.k,hnew _ _ HX.out.2.1.k,hnew _ _ HX.out.2.2.1.k⟩
     ·rw [HX.out.2.2.2.ext j (by omega)];exact fT (by omega)
     ·have h1:Below w.heap.size w w1:=by
       rw [HW1.out]
       exact ((zR _ _).alloc (Nat.le_refl _) _).alloc (by simp) _
      exact uQ (h1.trans (HX.out.2.2.2.below (by omega) fun j hj=>fT (by omega))) (by omega) _
    have HFIN:=Lib.hid hFIN
    clear hFIN HX
    generalize wr.setRow (w.heap.size+1) #[.slice (some ⟨b2,0,none⟩) k k, .slice (some ⟨b5,0,none⟩) k k, .slice (some ⟨b8,0,none⟩) B B]=W9 at *
    have r0:=hr9.cell 0
    have r1:=hr9.cell 1
    have r2:=hr9.cell 2
    simp only [zA,zB,zC] at r0 r1 r2
    clear hr9 hrb e0 e1 e2
    go_wp2_with fail
    exact kK (v := .agg #[.slice (some ⟨b2,0,none⟩) k k, .slice (some ⟨b5,0,none⟩) k k, .slice (some ⟨b8,0,none⟩) B B]) (by simp [results,Try.results55,go_sem,r0,r1,r2]) rfl HFIN.out
end Go.Proofs.Yticieifacalocaa
