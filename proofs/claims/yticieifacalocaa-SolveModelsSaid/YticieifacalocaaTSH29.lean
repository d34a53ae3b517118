/- SolNewE -/
import Derived.Test.YticieifacalocaaTSH28
namespace Go.Proofs.Yticieifacalocaa
open Go.RowKit
theorem info_i8:(Try.prog.info? 48).map (fun i=>(i.zero,i.size,i.bytes))=some (some (.int .i8 0),1,1):=by kernel_rfl
theorem make_i8 {B:Nat} (hB:B≤1024) (W:World):(Instr.makeSlice 47 (.int .i64 (B:Int)) (.int .i64 (B:Int))).run Try.prog W = .ok (.slice (some ⟨W.heap.size,0,none⟩) B B) (W.alloc (.cells (c8 (List.replicate B 0)).toArray 48)):=by
 obtain ⟨i,hi,h0,h1,h2⟩:=qD info_i8
 have:=run_makeSlice (P:=Try.prog) (w:=W) 47 48 i (.int .i8 0) (by kernel_rfl) hi h0 .i64 .i64 B B (by omega) (by omega) (by rw [h1];omega) (by rw [h2];omega) (by omega)
 rw [this,h1]
 have e1:(B:Int).toNat=B:=by omega
 have e2:madeCells (Value.int .i8 0).cells ((B:Int).toNat * 1)=(c8 (List.replicate B 0)).toArray:=by
  apply uI.1
  rw [e1,yA]
  have:=vG (.int .i8 0) B
  rw [show (Value.int IntKind.i8 0).cells = #[.int .i8 0] from rfl,this]
  simp [c8]
 rw [e2,e1]
theorem eW {B:Nat} (hB:B≤1024) (W:World):(Instr.makeSlice 33 (.int .i64 (B:Int)) (.int .i64 (B:Int))).run Try.prog W = .ok (.slice (some ⟨W.heap.size,0,none⟩) B B) (W.alloc (.cells (ci (List.replicate B 0)).toArray 3)):=by
 obtain ⟨i,hi,h0,h1,h2⟩:=qD wV
 have:=run_makeSlice (P:=Try.prog) (w:=W) 33 3 i (.int .i64 0) (by kernel_rfl) hi h0 .i64 .i64 B B (by omega) (by omega) (by rw [h1];omega) (by rw [h2];omega) (by omega)
 rw [this,h1]
 have e1:(B:Int).toNat=B:=by omega
 have e2:madeCells (Value.int .i64 0).cells ((B:Int).toNat * 1)=(ci (List.replicate B 0)).toArray:=by
  apply uI.1
  rw [e1,yA]
  have:=vG (.int .i64 0) B
  rw [show (Value.int IntKind.i64 0).cells = #[.int .i64 0] from rfl,this]
  simp [ci]
 rw [e2,e1]
def engK (B k:Nat):Eng:={ Eng.new B with rsn:=List.replicate k (-1)++List.replicate (B-k) 0 }
def kr (r:Nat):Kap:=kset (fun _=>none) r .acty
theorem kr_at {r:Nat}:kr r r=some .acty:=by unfold kr kset;rw [if_pos rfl]
theorem fT {r k:Nat} (h:k≠r):kr r k=none:=by unfold kr kset;rw [if_neg h]
def NewERet (w:World) (B:Nat) (en:Ending) (w':World):Prop :=
 ∃κ b V,en = .returned (.agg (V.cells B 0++[.nilFunc]).toArray)∧EngM κ w' b 83 [.nilFunc] 0 (Eng.new B) V∧(∀k,k<w.heap.size→κ k=none)∧Below w.heap.size w w'∧w.heap.size≤b
theorem lF (B k:Nat):(engK B k).val.length=B:=by simp [engK,Eng.new]
theorem engK_set {B k:Nat} (h:k<B):({ engK B k with rsn:=(engK B k).rsn.set k (-1) }:Eng)=engK B (k+1):=by
 have:(List.replicate k (-1:Int)++List.replicate (B-k) 0).set k (-1)=List.replicate (k+1) (-1)++List.replicate (B-(k+1)) 0:=by
  obtain ⟨m,hm⟩:∃m,B-k=m+1:=⟨B-k-1,by omega⟩
  have hm2:B-(k+1)=m:=by omega
  rw [hm,hm2,uV,if_neg (by simp),yE]
  simp [List.replicate_succ',List.append_assoc]
 unfold engK
 simp only [this]
theorem engK_all (B:Nat):engK B B=Eng.new B:=by simp [engK,Eng.new]
structure NI (w1:World) (b0 B:Nat) (κ:Kap) (w:World) (p0 p1 p2 p3 p4 p5 p6 p7 p8 p9 p10 p11 p12:Bool) (x3 x5 x6 x7 x8 x9 x10 x11 x12 x13 x14 x15:Value):Prop where
 f:Fr (kr (b0+1)) κ w1 w (fun s=>s = .slv)
 d0:p0=true→∃m,x5 = .map (some m)∧MapC κ w m B (fun _=>nilS)
 d1:p1=true→x6 = .pointer (some ⟨b0,1,none⟩)
 d4:p4=true→x9 = .pointer (some ⟨b0,1,none⟩)
 d7:p7=true→x12 = .pointer (some ⟨b0,1,none⟩)
 d2:p2=true→x7 = .int .i64 (B:Int)
 d5:p5=true→x10 = .int .i64 (B:Int)
 d8:p8=true→x13 = .int .i64 (B:Int)
 d3:p3=true→∃b,x8 = .slice (some ⟨b,0,none⟩) B B∧HB κ w .val b 48 (c8 (List.replicate B 0)).toArray
 d6:p6=true→∃b,x11 = .slice (some ⟨b,0,none⟩) B B∧HB κ w .rsn b 3 (ci (List.replicate B 0)).toArray
 d9:p9=true→∃b,x14 = .slice (some ⟨b,0,none⟩) B B∧HB κ w .lvl b 3 (ci (List.replicate B 0)).toArray
 d10:p10=true→p0=true∧p3=true∧p6=true∧p9=true∧x15 = .agg #[nilS,nilS,x5,x8,x11,x14,nilS,nilS, .int .i64 0, .nilFunc]
 d11:p11=true→∃b,x3 = .pointer (some ⟨b,0,none⟩)∧HB κ w .slv b 83 (if p12=true then #[nilS,nilS,x5,x8,x11,x14,nilS,nilS, .int .i64 0, .nilFunc] else #[nilS,nilS, .map none,nilS,nilS,nilS,nilS,nilS, .int .i64 0, .nilFunc])
 d12:p12=true→p10=true∧p11=true
section
variable {w1:World} {b0 B:Nat} {κ κ':Kap} {w w':World} {p0 p1 p2 p3 p4 p5 p6 p7 p8 p9 p10 p11 p12:Bool} {x3 x5 x6 x7 x8 x9 x10 x11 x12 x13 x14 x15:Value}
theorem NI.grow (h:NI w1 b0 B κ w p0 p1 p2 p3 p4 p5 p6 p7 p8 p9 p10 p11 p12 x3 x5 x6 x7 x8 x9 x10 x11 x12 x13 x14 x15) (f:Fr κ κ' w w' (fun _=>False)):NI w1 b0 B κ' w' p0 p1 p2 p3 p4 p5 p6 p7 p8 p9 p10 p11 p12 x3 x5 x6 x7 x8 x9 x10 x11 x12 x13 x14 x15:=by
 refine ⟨h.f.trans (f.mono fun s hs=>hs.elim),fun hp => ?_,h.d1,h.d4,h.d7,h.d2,h.d5,h.d8,fun hp => ?_,fun hp => ?_,fun hp => ?_,h.d10,fun hp => ?_,h.d12⟩
 ·obtain ⟨m,h1,h2⟩:=h.d0 hp;exact ⟨m,h1,h2.fr f id⟩
 ·obtain ⟨m,h1,h2⟩:=h.d3 hp;exact ⟨m,h1,h2.fr f id⟩
 ·obtain ⟨m,h1,h2⟩:=h.d6 hp;exact ⟨m,h1,h2.fr f id⟩
 ·obtain ⟨m,h1,h2⟩:=h.d9 hp;exact ⟨m,h1,h2.fr f id⟩
 ·obtain ⟨m,h1,h2⟩:=h.d11 hp;exact ⟨m,h1,h2.fr f id⟩
theorem NI.s0 (h:NI w1 b0 B κ w p0 p1 p2 p3 p4 p5 p6 p7 p8 p9 p10 p11 p12 x3 x5 x6 x7 x8 x9 x10 x11 x12 x13 x14 x15) (hp0:p0=false):∃κ',NI w1 b0 B κ' (w.alloc (.map #[] 0)) true p1 p2 p3 p4 p5 p6 p7 p8 p9 p10 p11 p12 x3 (.map (some w.heap.size)) x6 x7 x8 x9 x10 x11 x12 x13 x14 x15:=by
 have g:=h.grow (Fr.make κ w (.map #[] 0) .wat _)
 exact ⟨_,⟨g.f,fun _=>⟨_,rfl,MapC.made κ w B⟩,g.d1,g.d4,g.d7,g.d2,g.d5,g.d8,g.d3,g.d6,g.d9,fun hp=>by have:=h.d10 hp;simp_all,fun hp=>by obtain ⟨b,e1,e2⟩:=g.d11 hp;refine ⟨b,e1,?_⟩;by_cases e3:p12=true;(· exfalso;have q1:=h.d12 e3;have q2:=h.d10 q1.1;simp_all);(rw [if_neg e3] at e2 ⊢;exact e2),g.d12⟩⟩
theorem NI.s1 (h:NI w1 b0 B κ w p0 p1 p2 p3 p4 p5 p6 p7 p8 p9 p10 p11 p12 x3 x5 x6 x7 x8 x9 x10 x11 x12 x13 x14 x15) (_hp1:p1=false):∃κ',NI w1 b0 B κ' w p0 true p2 p3 p4 p5 p6 p7 p8 p9 p10 p11 p12 x3 x5 (.pointer (some ⟨b0,1,none⟩)) x7 x8 x9 x10 x11 x12 x13 x14 x15:=by
 exact ⟨κ,⟨h.f,h.d0,fun _=>rfl,h.d4,h.d7,h.d2,h.d5,h.d8,h.d3,h.d6,h.d9,h.d10,h.d11,h.d12⟩⟩
theorem NI.s4 (h:NI w1 b0 B κ w p0 p1 p2 p3 p4 p5 p6 p7 p8 p9 p10 p11 p12 x3 x5 x6 x7 x8 x9 x10 x11 x12 x13 x14 x15) (_hp4:p4=false):∃κ',NI w1 b0 B κ' w p0 p1 p2 p3 true p5 p6 p7 p8 p9 p10 p11 p12 x3 x5 x6 x7 x8 (.pointer (some ⟨b0,1,none⟩)) x10 x11 x12 x13 x14 x15:=by
 exact ⟨κ,⟨h.f,h.d0,h.d1,fun _=>rfl,h.d7,h.d2,h.d5,h.d8,h.d3,h.d6,h.d9,h.d10,h.d11,h.d12⟩⟩
theorem NI.s7 (h:NI w1 b0 B κ w p0 p1 p2 p3 p4 p5 p6 p7 p8 p9 p10 p11 p12 x3 x5 x6 x7 x8 x9 x10 x11 x12 x13 x14 x15) (_hp7:p7=false):∃κ',NI w1 b0 B κ' w p0 p1 p2 p3 p4 p5 p6 true p8 p9 p10 p11 p12 x3 x5 x6 x7 x8 x9 x10 x11 (.pointer (some ⟨b0,1,none⟩)) x13 x14 x15:=by
 exact ⟨κ,⟨h.f,h.d0,h.d1,h.d4,fun _=>rfl,h.d2,h.d5,h.d8,h.d3,h.d6,h.d9,h.d10,h.d11,h.d12⟩⟩
theorem NI.s2 (h:NI w1 b0 B κ w p0 p1 p2 p3 p4 p5 p6 p7 p8 p9 p10 p11 p12 x3 x5 x6 x7 x8 x9 x10 x11 x12 x13 x14 x15) (_hp2:p2=false):∃κ',NI w1 b0 B κ' w p0 p1 true p3 p4 p5 p6 p7 p8 p9 p10 p11 p12 x3 x5 x6 (.int .i64 (B:Int)) x8 x9 x10 x11 x12 x13 x14 x15:=by
 exact ⟨κ,⟨h.f,h.d0,h.d1,h.d4,h.d7,fun _=>rfl,h.d5,h.d8,h.d3,h.d6,h.d9,h.d10,h.d11,h.d12⟩⟩
theorem NI.s5 (h:NI w1 b0 B κ w p0 p1 p2 p3 p4 p5 p6 p7 p8 p9 p10 p11 p12 x3 x5 x6 x7 x8 x9 x10 x11 x12 x13 x14 x15) (_hp5:p5=false):∃κ',NI w1 b0 B κ' w p0 p1 p2 p3 p4 true p6 p7 p8 p9 p10 p11 p12 x3 x5 x6 x7 x8 x9 (.int .i64 (B:Int)) x11 x12 x13 x14 x15:=by
 exact ⟨κ,⟨h.f,h.d0,h.d1,h.d4,h.d7,h.d2,fun _=>rfl,h.d8,h.d3,h.d6,h.d9,h.d10,h.d11,h.d12⟩⟩
theorem NI.s8 (h:NI w1 b0 B κ w p0 p1 p2 p3 p4 p5 p6 p7 p8 p9 p10 p11 p12 x3 x5 x6 x7 x8 x9 x10 x11 x12 x13 x14 x15) (_hp8:p8=false):∃κ',NI w1 b0 B κ' w p0 p1 p2 p3 p4 p5 p6 p7 true p9 p10 p11 p12 x3 x5 x6 x7 x8 x9 x10 x11 x12 (.int .i64 (B:Int)) x14 x15:=by
 exact ⟨κ,⟨h.f,h.d0,h.d1,h.d4,h.d7,h.d2,h.d5,fun _=>rfl,h.d3,h.d6,h.d9,h.d10,h.d11,h.d12⟩⟩
theorem NI.s3 (h:NI w1 b0 B κ w p0 p1 p2 p3 p4 p5 p6 p7 p8 p9 p10 p11 p12 x3 x5 x6 x7 x8 x9 x10 x11 x12 x13 x14 x15) (hp3:p3=false):∃κ',NI w1 b0 B κ' (w.alloc (.cells (c8 (List.replicate B 0)).toArray 48)) p0 p1 p2 true p4 p5 p6 p7 p8 p9 p10 p11 p12 x3 x5 x6 x7 (.slice (some ⟨w.heap.size,0,none⟩) B B) x9 x10 x11 x12 x13 x14 x15:=by
 have g:=h.grow (Fr.make κ w ((.cells (c8 (List.replicate B 0)).toArray 48)) .val _)
 exact ⟨_,⟨g.f,g.d0,g.d1,g.d4,g.d7,g.d2,g.d5,g.d8,fun _=>⟨_,rfl,HB.new κ w .val _ _⟩,g.d6,g.d9,fun hp=>by have:=h.d10 hp;simp_all,fun hp=>by obtain ⟨b,e1,e2⟩:=g.d11 hp;refine ⟨b,e1,?_⟩;by_cases e3:p12=true;(· exfalso;have q1:=h.d12 e3;have q2:=h.d10 q1.1;simp_all);(rw [if_neg e3] at e2 ⊢;exact e2),g.d12⟩⟩
theorem NI.s6 (h:NI w1 b0 B κ w p0 p1 p2 p3 p4 p5 p6 p7 p8 p9 p10 p11 p12 x3 x5 x6 x7 x8 x9 x10 x11 x12 x13 x14 x15) (hp6:p6=false):∃κ',NI w1 b0 B κ' (w.alloc (.cells (ci (List.replicate B 0)).toArray 3)) p0 p1 p2 p3 p4 p5 true p7 p8 p9 p10 p11 p12 x3 x5 x6 x7 x8 x9 x10 (.slice (some ⟨w.heap.size,0,none⟩) B B) x12 x13 x14 x15:=by
 have g:=h.grow (Fr.make κ w ((.cells (ci (List.replicate B 0)).toArray 3)) .rsn _)
 exact ⟨_,⟨g.f,g.d0,g.d1,g.d4,g.d7,g.d2,g.d5,g.d8,g.d3,fun _=>⟨_,rfl,HB.new κ w .rsn _ _⟩,g.d9,fun hp=>by have:=h.d10 hp;simp_all,fun hp=>by obtain ⟨b,e1,e2⟩:=g.d11 hp;refine ⟨b,e1,?_⟩;by_cases e3:p12=true;(· exfalso;have q1:=h.d12 e3;have q2:=h.d10 q1.1;simp_all);(rw [if_neg e3] at e2 ⊢;exact e2),g.d12⟩⟩
theorem NI.s9 (h:NI w1 b0 B κ w p0 p1 p2 p3 p4 p5 p6 p7 p8 p9 p10 p11 p12 x3 x5 x6 x7 x8 x9 x10 x11 x12 x13 x14 x15) (hp9:p9=false):∃κ',NI w1 b0 B κ' (w.alloc (.cells (ci (List.replicate B 0)).toArray 3)) p0 p1 p2 p3 p4 p5 p6 p7 p8 true p10 p11 p12 x3 x5 x6 x7 x8 x9 x10 x11 x12 x13 (.slice (some ⟨w.heap.size,0,none⟩) B B) x15:=by
 have g:=h.grow (Fr.make κ w ((.cells (ci (List.replicate B 0)).toArray 3)) .lvl _)
 exact ⟨_,⟨g.f,g.d0,g.d1,g.d4,g.d7,g.d2,g.d5,g.d8,g.d3,g.d6,fun _=>⟨_,rfl,HB.new κ w .lvl _ _⟩,fun hp=>by have:=h.d10 hp;simp_all,fun hp=>by obtain ⟨b,e1,e2⟩:=g.d11 hp;refine ⟨b,e1,?_⟩;by_cases e3:p12=true;(· exfalso;have q1:=h.d12 e3;have q2:=h.d10 q1.1;simp_all);(rw [if_neg e3] at e2 ⊢;exact e2),g.d12⟩⟩
theorem NI.s10 (h:NI w1 b0 B κ w p0 p1 p2 p3 p4 p5 p6 p7 p8 p9 p10 p11 p12 x3 x5 x6 x7 x8 x9 x10 x11 x12 x13 x14 x15) (_hp10:p10=false) (h0:p0=true) (h3:p3=true) (h6:p6=true) (h9:p9=true):∃κ',NI w1 b0 B κ' w p0 p1 p2 p3 p4 p5 p6 p7 p8 p9 true p11 p12 x3 x5 x6 x7 x8 x9 x10 x11 x12 x13 x14 (.agg #[nilS,nilS,x5,x8,x11,x14,nilS,nilS, .int .i64 0, .nilFunc]):=by
 exact ⟨κ,⟨h.f,h.d0,h.d1,h.d4,h.d7,h.d2,h.d5,h.d8,h.d3,h.d6,h.d9,fun _=>⟨h0,h3,h6,h9,rfl⟩,h.d11,fun hp=>⟨rfl,(h.d12 hp).2⟩⟩⟩
theorem NI.s11 (h:NI w1 b0 B κ w p0 p1 p2 p3 p4 p5 p6 p7 p8 p9 p10 p11 p12 x3 x5 x6 x7 x8 x9 x10 x11 x12 x13 x14 x15) (hp11:p11=false):∃κ',NI w1 b0 B κ' (w.alloc (.cells #[nilS,nilS, .map none,nilS,nilS,nilS,nilS,nilS, .int .i64 0, .nilFunc] 83)) p0 p1 p2 p3 p4 p5 p6 p7 p8 p9 p10 true p12 (.pointer (some ⟨w.heap.size,0,none⟩)) x5 x6 x7 x8 x9 x10 x11 x12 x13 x14 x15:=by
 have g:=h.grow (Fr.make κ w ((.cells #[nilS,nilS, .map none,nilS,nilS,nilS,nilS,nilS, .int .i64 0, .nilFunc] 83)) .slv _)
 exact ⟨_,⟨g.f,g.d0,g.d1,g.d4,g.d7,g.d2,g.d5,g.d8,g.d3,g.d6,g.d9,g.d10,fun _=>⟨_,rfl,by rw [if_neg (fun e=>by have:=h.d12 e;simp_all)];exact HB.new κ w .slv _ _⟩,fun hp=>by have:=h.d12 hp;simp_all⟩⟩
theorem NI.s12 (h:NI w1 b0 B κ w p0 p1 p2 p3 p4 p5 p6 p7 p8 p9 p10 p11 p12 x3 x5 x6 x7 x8 x9 x10 x11 x12 x13 x14 x15) {b:Nat} (hb:HB κ w .slv b 83 #[nilS,nilS, .map none,nilS,nilS,nilS,nilS,nilS, .int .i64 0, .nilFunc]) (hx:x3 = .pointer (some ⟨b,0,none⟩)) (h10:p10=true) (h11:p11=true):NI w1 b0 B κ (w.setRow b #[nilS,nilS,x5,x8,x11,x14,nilS,nilS, .int .i64 0, .nilFunc]) p0 p1 p2 p3 p4 p5 p6 p7 p8 p9 p10 p11 true x3 x5 x6 x7 x8 x9 x10 x11 x12 x13 x14 x15:=by
 have f:Fr κ κ w (w.setRow b #[nilS,nilS,x5,x8,x11,x14,nilS,nilS, .int .i64 0, .nilFunc]) (fun s=>s = .slv):=Fr.row κ w hb.k rfl
 refine ⟨h.f.trans f,fun hp => ?_,h.d1,h.d4,h.d7,h.d2,h.d5,h.d8,fun hp => ?_,fun hp => ?_,fun hp => ?_,h.d10,fun _=>⟨b,hx,by rw [if_pos rfl];exact hb.row _⟩,fun _=>⟨h10,h11⟩⟩
 ·obtain ⟨m,h1,h2⟩:=h.d0 hp;exact ⟨m,h1,h2.fr f (by simp)⟩
 ·obtain ⟨m,h1,h2⟩:=h.d3 hp;exact ⟨m,h1,h2.fr f (by simp)⟩
 ·obtain ⟨m,h1,h2⟩:=h.d6 hp;exact ⟨m,h1,h2.fr f (by simp)⟩
 ·obtain ⟨m,h1,h2⟩:=h.d9 hp;exact ⟨m,h1,h2.fr f (by simp)⟩
end
set_option maxRecDepth 100000 in
set_option maxHeartbeats 8000000 in
theorem aR {B:Nat} (hB:B≤1024) (ints:Int) (av cv:Value) (w:World) :
  Calls Try.prog 45 #[.agg #[.int .i64 ints, .int .i64 (B:Int),av,cv]] w (NewERet w B):=by
 have hmm:=@run_makeMap Try.prog
 have h8:=make_i8 hB
 have h6:=eW hB
 go_enter Try.func45,Try.ntmps45
 go_upto_region 1 with fail
 obtain ⟨w1,hw1⟩:∃w1,w1=((w.alloc (.cells #[.int .i64 ints, .int .i64 (B:Int),av,cv] 29)).alloc (.cells #[nilS,nilS, .map none,nilS,nilS,nilS,nilS,nilS, .int .i64 0, .nilFunc] 83)):=⟨_,rfl⟩
 have hsz:w1.heap.size=w.heap.size+2:=by rw [hw1];simp
 have hq:w1.cell? ⟨w.heap.size,1,none⟩=some (.int .i64 (B:Int)):=by rw [hw1];simp
 unfold nilS at hw1
 rw [←hw1]
 have HW1:=Lib.hid hw1
 clear hw1
 refine aS (by kernel_rfl) (fun l a W=>∃(κ:Kap) (p0 p1 p2 p3 p4 p5 p6 p7 p8 p9 p10 p11 p12:Bool) (x3 x5 x6 x7 x8 x9 x10 x11 x12 x13 x14 x15:Value),l = #[p0,p1,p2,p3,p4,p5,p6,p7,p8,p9,p10,p11,p12]∧a={ tmps := #[.agg #[.int .i64 ints, .int .i64 (B:Int),av,cv], .pointer (some ⟨w.heap.size,0,none⟩), .pointer (some ⟨w.heap.size+1,0,none⟩),x3,undef,x5,x6,x7,x8,x9,x10,x11,x12,x13,x14,x15,undef,undef,undef,undef,undef,undef,undef,undef,undef,undef,undef,undef],defers:=[] }∧Hid (NI w1 w.heap.size B κ W p0 p1 p2 p3 p4 p5 p6 p7 p8 p9 p10 p11 p12 x3 x5 x6 x7 x8 x9 x10 x11 x12 x13 x14 x15)) ?_ ?_ ?_
 ·exact ⟨kr (w.heap.size+1),false,false,false,false,false,false,false,false,false,false,false,false,false,undef,undef,undef,undef,undef,undef,undef,undef,undef,undef,undef,undef,rfl,rfl,Lib.hid ⟨Fr.drew _ _ _,fun h=>(by cases h),fun h=>(by cases h),fun h=>(by cases h),fun h=>(by cases h),fun h=>(by cases h),fun h=>(by cases h),fun h=>(by cases h),fun h=>(by cases h),fun h=>(by cases h),fun h=>(by cases h),fun h=>(by cases h),fun h=>(by cases h),fun h=>(by cases h)⟩⟩
 ·rintro l a W i ⟨κ,p0,p1,p2,p3,p4,p5,p6,p7,p8,p9,p10,p11,p12,x3,x5,x6,x7,x8,x9,x10,x11,x12,x13,x14,x15,rfl,rfl,H⟩ hi
  have hlt:=rO hi
  have hlt:i<13:=hlt
  have hqW:W.cell? ⟨w.heap.size,1,none⟩=some (.int .i64 (B:Int)):=by
   rw [yK (a:=⟨w.heap.size,1,none⟩) (H.out.f.blk w.heap.size (by omega) fun s e=>by rw [fT (by omega)] at e;cases e)];exact hq
  rcases (by omega:i=0∨i=1∨i=2∨i=3∨i=4∨i=5∨i=6∨i=7∨i=8∨i=9∨i=10∨i=11∨i=12) with rfl|rfl|rfl|rfl|rfl|rfl|rfl|rfl|rfl|rfl|rfl|rfl|rfl
  ·have hp:p0=false:=by simpa using wH hi
   clear hi hlt
   obtain ⟨κ',hN⟩:=H.out.s0 hp
   have HN:=Lib.hid hN
   clear hN hp
   refine yD rfl (fun K hK => ?_)
   go_simp
   exact hK _ _ ⟨κ',true,p1,p2,p3,p4,p5,p6,p7,p8,p9,p10,p11,p12,_,_,_,_,_,_,_,_,_,_,_,_,rfl,rfl,HN⟩
  ·have hp:p1=false:=by simpa using wH hi
   clear hi hlt
   obtain ⟨κ',hN⟩:=H.out.s1 hp
   have HN:=Lib.hid hN
   clear hN hp
   refine yD rfl (fun K hK => ?_)
   go_simp
   exact hK _ _ ⟨κ',p0,true,p2,p3,p4,p5,p6,p7,p8,p9,p10,p11,p12,_,_,_,_,_,_,_,_,_,_,_,_,rfl,rfl,HN⟩
  ·have hp:p2=false:=by simpa using wH hi
   have e1:p1=true:=by simpa using wM hi 1 (by kernel_rfl)
   clear hi hlt
   obtain rfl:=H.out.d1 e1
   clear e1
   obtain ⟨κ',hN⟩:=H.out.s2 hp
   have HN:=Lib.hid hN
   clear hN hp
   refine yD rfl (fun K hK => ?_)
   go_simp
   exact hK _ _ ⟨κ',p0,p1,true,p3,p4,p5,p6,p7,p8,p9,p10,p11,p12,_,_,_,_,_,_,_,_,_,_,_,_,rfl,rfl,HN⟩
  ·have hp:p3=false:=by simpa using wH hi
   have e2:p2=true:=by simpa using wM hi 2 (by kernel_rfl)
   clear hi hlt
   obtain rfl:=H.out.d2 e2
   clear e2
   obtain ⟨κ',hN⟩:=H.out.s3 hp
   have HN:=Lib.hid hN
   clear hN hp
   refine yD rfl (fun K hK => ?_)
   go_simp
   exact hK _ _ ⟨κ',p0,p1,p2,true,p4,p5,p6,p7,p8,p9,p10,p11,p12,_,_,_,_,_,_,_,_,_,_,_,_,rfl,rfl,HN⟩
  ·have hp:p4=false:=by simpa using wH hi
   clear hi hlt
   obtain ⟨κ',hN⟩:=H.out.s4 hp
   have HN:=Lib.hid hN
   clear hN hp
   refine yD rfl (fun K hK => ?_)
   go_simp
   exact hK _ _ ⟨κ',p0,p1,p2,p3,true,p5,p6,p7,p8,p9,p10,p11,p12,_,_,_,_,_,_,_,_,_,_,_,_,rfl,rfl,HN⟩
  ·have hp:p5=false:=by simpa using wH hi
   have e4:p4=true:=by simpa using wM hi 4 (by kernel_rfl)
   clear hi hlt
   obtain rfl:=H.out.d4 e4
   clear e4
   obtain ⟨κ',hN⟩:=H.out.s5 hp
   have HN:=Lib.hid hN
   clear hN hp
   refine yD rfl (fun K hK => ?_)
   go_simp
   exact hK _ _ ⟨κ',p0,p1,p2,p3,p4,true,p6,p7,p8,p9,p10,p11,p12,_,_,_,_,_,_,_,_,_,_,_,_,rfl,rfl,HN⟩
  ·have hp:p6=false:=by simpa using wH hi
   have e5:p5=true:=by simpa using wM hi 5 (by kernel_rfl)
   clear hi hlt
   obtain rfl:=H.out.d5 e5
   clear e5
   obtain ⟨κ',hN⟩:=H.out.s6 hp
   have HN:=Lib.hid hN
   clear hN hp
   refine yD rfl (fun K hK => ?_)
   go_simp
   exact hK _ _ ⟨κ',p0,p1,p2,p3,p4,p5,true,p7,p8,p9,p10,p11,p12,_,_,_,_,_,_,_,_,_,_,_,_,rfl,rfl,HN⟩
  ·have hp:p7=false:=by simpa using wH hi
   clear hi hlt
   obtain ⟨κ',hN⟩:=H.out.s7 hp
   have HN:=Lib.hid hN
   clear hN hp
   refine yD rfl (fun K hK => ?_)
   go_simp
   exact hK _ _ ⟨κ',p0,p1,p2,p3,p4,p5,p6,true,p8,p9,p10,p11,p12,_,_,_,_,_,_,_,_,_,_,_,_,rfl,rfl,HN⟩
  ·have hp:p8=false:=by simpa using wH hi
   have e7:p7=true:=by simpa using wM hi 7 (by kernel_rfl)
   clear hi hlt
   obtain rfl:=H.out.d7 e7
   clear e7
   obtain ⟨κ',hN⟩:=H.out.s8 hp
   have HN:=Lib.hid hN
   clear hN hp
   refine yD rfl (fun K hK => ?_)
   go_simp
   exact hK _ _ ⟨κ',p0,p1,p2,p3,p4,p5,p6,p7,true,p9,p10,p11,p12,_,_,_,_,_,_,_,_,_,_,_,_,rfl,rfl,HN⟩
  ·have hp:p9=false:=by simpa using wH hi
   have e8:p8=true:=by simpa using wM hi 8 (by kernel_rfl)
   clear hi hlt
   obtain rfl:=H.out.d8 e8
   clear e8
   obtain ⟨κ',hN⟩:=H.out.s9 hp
   have HN:=Lib.hid hN
   clear hN hp
   refine yD rfl (fun K hK => ?_)
   go_simp
   exact hK _ _ ⟨κ',p0,p1,p2,p3,p4,p5,p6,p7,p8,true,p10,p11,p12,_,_,_,_,_,_,_,_,_,_,_,_,rfl,rfl,HN⟩
  ·have hp:p10=false:=by simpa using wH hi
   have e0:p0=true:=by simpa using wM hi 0 (by kernel_rfl)
   have e3:p3=true:=by simpa using wM hi 3 (by kernel_rfl)
   have e6:p6=true:=by simpa using wM hi 6 (by kernel_rfl)
   have e9:p9=true:=by simpa using wM hi 9 (by kernel_rfl)
   clear hi hlt
   obtain ⟨m0,h5, -⟩:=H.out.d0 e0
   obtain ⟨b3,h8, -⟩:=H.out.d3 e3
   obtain ⟨b6,h11, -⟩:=H.out.d6 e6
   obtain ⟨b9,h14, -⟩:=H.out.d9 e9
   subst h5 h8 h11 h14
   have HX:=Lib.hid (And.intro (And.intro e0 e3) (And.intro e6 e9))
   clear e0 e3 e6 e9
   obtain ⟨κ',hN⟩:=H.out.s10 hp HX.out.1.1 HX.out.1.2 HX.out.2.1 HX.out.2.2
   have HN:=Lib.hid hN
   clear hN hp
   refine yD rfl (fun K hK => ?_)
   go_simp
   exact hK _ _ ⟨κ',p0,p1,p2,p3,p4,p5,p6,p7,p8,p9,true,p11,p12,_,_,_,_,_,_,_,_,_,_,_,_,rfl,rfl,HN⟩
  ·have hp:p11=false:=by simpa using wH hi
   clear hi hlt
   obtain ⟨κ',hN⟩:=H.out.s11 hp
   have HN:=Lib.hid hN
   clear hN hp
   refine yD rfl (fun K hK => ?_)
   go_simp
   exact hK _ _ ⟨κ',p0,p1,p2,p3,p4,p5,p6,p7,p8,p9,p10,true,p12,_,_,_,_,_,_,_,_,_,_,_,_,rfl,rfl,HN⟩
  ·have hp:p12=false:=by simpa using wH hi
   have e10:p10=true:=by simpa using wM hi 10 (by kernel_rfl)
   have e11:p11=true:=by simpa using wM hi 11 (by kernel_rfl)
   clear hi hlt
   obtain ⟨-, -, -, -,h15⟩:=H.out.d10 e10
   obtain ⟨b,h3,hb⟩:=H.out.d11 e11
   rw [if_neg (by rw [hp];simp)] at hb
   have HN:=Lib.hid (H.out.s12 hb h3 e10 e11)
   obtain ⟨m0,h5, -⟩:=H.out.d0 (H.out.d10 e10).1
   obtain ⟨b3,h8, -⟩:=H.out.d3 (H.out.d10 e10).2.1
   obtain ⟨b6,h11, -⟩:=H.out.d6 (H.out.d10 e10).2.2.1
   obtain ⟨b9,h14, -⟩:=H.out.d9 (H.out.d10 e10).2.2.2.1
   have hbb:=hb.b
   subst h15 h3 h5 h8 h11 h14
   clear e10 e11 hp hb
   refine yD rfl (fun K hK => ?_)
   rw [if_pos (by rfl)]
   refine wp_store_row 83 (.tmp 3) (.tmp 15) rfl b _ rfl rfl 83 _ hbb (by kernel_rfl) rfl (by simp [nilS,Value.oneCell']) ?_
   exact hK _ _ ⟨κ,p0,p1,p2,p3,p4,p5,p6,p7,p8,p9,p10,p11,true,_,_,_,_,_,_,_,_,_,_,_,_,rfl,rfl,HN⟩
 ·rintro l a W ⟨κ,p0,p1,p2,p3,p4,p5,p6,p7,p8,p9,p10,p11,p12,x3,x5,x6,x7,x8,x9,x10,x11,x12,x13,x14,x15,rfl,rfl,H⟩ hr
  obtain rfl:p0=true:=by simpa using wI hr 0 _ rfl (by simp [Region.binds])
  obtain rfl:p1=true:=by simpa using wI hr 1 _ rfl (by simp [Region.binds])
  obtain rfl:p2=true:=by simpa using wI hr 2 _ rfl (by simp [Region.binds])
  obtain rfl:p3=true:=by simpa using wI hr 3 _ rfl (by simp [Region.binds])
  obtain rfl:p4=true:=by simpa using wI hr 4 _ rfl (by simp [Region.binds])
  obtain rfl:p5=true:=by simpa using wI hr 5 _ rfl (by simp [Region.binds])
  obtain rfl:p6=true:=by simpa using wI hr 6 _ rfl (by simp [Region.binds])
  obtain rfl:p7=true:=by simpa using wI hr 7 _ rfl (by simp [Region.binds])
  obtain rfl:p8=true:=by simpa using wI hr 8 _ rfl (by simp [Region.binds])
  obtain rfl:p9=true:=by simpa using wI hr 9 _ rfl (by simp [Region.binds])
  obtain rfl:p10=true:=by simpa using wI hr 10 _ rfl (by simp [Region.binds])
  obtain rfl:p11=true:=by simpa using wI hr 11 _ rfl (by simp [Region.binds])
  obtain rfl:p12=true:=by simpa using wI hr 12 _ rfl (by simp [Region.binds])
  obtain ⟨m0,rfl,hm0⟩:=H.out.d0 rfl
  obtain ⟨b3,rfl,hb3⟩:=H.out.d3 rfl
  obtain ⟨b6,rfl,hb6⟩:=H.out.d6 rfl
  obtain ⟨b9,rfl,hb9⟩:=H.out.d9 rfl
  obtain ⟨-, -, -, -,h15⟩:=H.out.d10 rfl
  obtain ⟨b,rfl,hb⟩:=H.out.d11 rfl
  rw [if_pos rfl] at hb
  have HE:Hid (EngM κ W b 83 [.nilFunc] 0 (engK B 0) ⟨nilS,nilS,nilS,nilS,b3,b6,b9,m0,[],fun _=>nilS⟩):=by
   refine Lib.hid ⟨?_,Hold.nil _ _ _ _ _,fun c u hu=>by simp at hu,Hold.nil _ _ _ _ _,by simpa [engK,Eng.new] using hb3,by simpa [engK] using hb6,by simpa [engK,Eng.new] using hb9,?_,?_,Hold.nil _ _ _ _ _,Hold.nil _ _ _ _ _,?_,fun l _ _=>Hold.nil _ _ _ _ _,?_,fun i => ?_⟩
   ·simpa [EV.cells,engK,Eng.new] using hb
   ·simp [engK,Eng.new]
   ·simp [engK,Eng.new]
   ·simpa [engK,Eng.new] using hm0
   ·simpa [engK,Eng.new] using hB
   ·left
    simp only [engK,Eng.new,List.getD_eq_getElem?_getD,List.getElem?_replicate]
    split<;>rfl
  have HF:=Lib.hid H.out.f
  clear H hr hm0 hb3 hb6 hb9 hb h15
  have q4:=HE.out.cellE (i:=4) rfl
  rw [lF] at q4
  go_upto_region 3 with fail
  clear q4
  go_loopw [19] (fun i wr=>∃k:Nat,k≤B∧i = .int .i64 k∧Hid (EngM κ wr b 83 [.nilFunc] 0 (engK B k) ⟨nilS,nilS,nilS,nilS,b3,b6,b9,m0,[],fun _=>nilS⟩∧Fr (kr (w.heap.size+1)) κ w1 wr (fun s=>s = .slv∨s = .rsn))) (fun i _=>B-(intOf i).toNat)
  case atStart=>exact ⟨0,zQ _,rfl,Lib.hid ⟨HE.out,HF.out.mono fun s hs => .inl hs⟩⟩
  case round =>
   clear HE HF
   obtain ⟨k,hk,rfl,HS⟩:=hrel
   by_cases hlt:k<B
   ·have q4:=HS.out.1.cellE (i:=4) rfl
    have qr:=HS.out.1.rsnAt (v:=k) (by rw [lF];exact hlt)
    have zr:=HS.out.1.rsn.frozen k
    rw [lF] at q4
    have y1:(k:Int)<(B:Int):=by omega
    have HS2:Hid (EngM κ (wr.setCell ⟨b6,k,none⟩ (.int .i64 (-1))) b 83 [.nilFunc] 0 (engK B (k+1)) ⟨nilS,nilS,nilS,nilS,b3,b6,b9,m0,[],fun _=>nilS⟩∧Fr (kr (w.heap.size+1)) κ w1 (wr.setCell ⟨b6,k,none⟩ (.int .i64 (-1))) (fun s=>s = .slv∨s = .rsn)):=by
     refine Lib.hid ⟨?_,HS.out.2.trans ((frs κ wr HS.out.1.rsn.k).mono fun s hs => .inr hs)⟩
     have:=HS.out.1.setRsn k (-1)
     rwa [engK_set hlt] at this
    clear HS
    simp only at zr qr
    go_wp2_with fail
    go_roundw
    case rel=>exact ⟨k+1,by omega,by go_num,HS2⟩
    case measure=>simp [intOf];omega
   ·have hkB:k=B:=by omega
    subst hkB
    have y1:¬k<k:=by omega
    have hE:=HS.out.1
    rw [engK_all] at hE
    have HE:=Lib.hid hE
    have hl:(Eng.new k).val.length=k:=by simp [Eng.new]
    have e0:=hE.cellE (i:=0) rfl
    have e1:=hE.cellE (i:=1) rfl
    have e2:=hE.cellE (i:=2) rfl
    have e3:=hE.cellE (i:=3) rfl
    have e4:=hE.cellE (i:=4) rfl
    have e5:=hE.cellE (i:=5) rfl
    have e6:=hE.cellE (i:=6) rfl
    have e7:=hE.cellE (i:=7) rfl
    have e8:=hE.cellE (i:=8) rfl
    have e9:=hE.cellR (i:=0) (u := .nilFunc) rfl
    rw [hl] at e3 e4 e5
    simp only [show (Eng.new k).hd=0 from rfl] at e8
    clear hE hl hlt
    have hrb:wr.heap[w.heap.size+1]? = some (.cells #[.slice none 0 0, .slice none 0 0, .map none, .slice none 0 0, .slice none 0 0, .slice none 0 0, .slice none 0 0, .slice none 0 0, .int .i64 0, .nilFunc] 83):=by
     rw [HS.out.2.blk _ (by omega) (fun s e=>(by rw [kr_at] at e;injection e with e;subst e;simp)),HW1.out,show w.heap.size+1=(w.alloc (.cells #[.int .i64 ints, .int .i64 (k:Int),av,cv] 29)).heap.size by simp]
     exact Blk.new _ _ _
    have HX:=Lib.hid (And.intro HE.out HS.out.2)
    clear HE HS
    simp only [nilS] at e0 e1 e6 e7
    go_upto_region 7 with fail
    go_step
    go_step
    go_step
    go_step
    refine kF rfl 83 (.tmp 2) (.tmp 27) rfl (w.heap.size+1) #[.slice none 0 0, .slice none 0 0, .map (some m0), .slice (some ⟨b3,0,none⟩) k k, .slice (some ⟨b6,0,none⟩) k k, .slice (some ⟨b9,0,none⟩) k k, .slice none 0 0, .slice none 0 0, .int .i64 0, .nilFunc] rfl rfl 83 _ hrb (by kernel_rfl) rfl (by simp [Value.oneCell']) ?_
    have hr9:Blk (wr.setRow (w.heap.size+1) #[.slice none 0 0, .slice none 0 0, .map (some m0), .slice (some ⟨b3,0,none⟩) k k, .slice (some ⟨b6,0,none⟩) k k, .slice (some ⟨b9,0,none⟩) k k, .slice none 0 0, .slice none 0 0, .int .i64 0, .nilFunc]) (w.heap.size+1) 83 #[.slice none 0 0, .slice none 0 0, .map (some m0), .slice (some ⟨b3,0,none⟩) k k, .slice (some ⟨b6,0,none⟩) k k, .slice (some ⟨b9,0,none⟩) k k, .slice none 0 0, .slice none 0 0, .int .i64 0, .nilFunc]:=vJ wr _ _ _ _ _ hrb
    have hFIN:NewERet w k (.returned (.agg #[.slice none 0 0, .slice none 0 0, .map (some m0), .slice (some ⟨b3,0,none⟩) k k, .slice (some ⟨b6,0,none⟩) k k, .slice (some ⟨b9,0,none⟩) k k, .slice none 0 0, .slice none 0 0, .int .i64 0, .nilFunc])) (wr.setRow (w.heap.size+1) #[.slice none 0 0, .slice none 0 0, .map (some m0), .slice (some ⟨b3,0,none⟩) k k, .slice (some ⟨b6,0,none⟩) k k, .slice (some ⟨b9,0,none⟩) k k, .slice none 0 0, .slice none 0 0, .int .i64 0, .nilFunc]):=by
     have hkr:κ (w.heap.size+1)=some .acty:=(HX.out.2.ext _ (by omega)).trans kr_at
     refine ⟨κ,b,⟨nilS,nilS,nilS,nilS,b3,b6,b9,m0,[],fun _=>nilS⟩,rfl,HX.out.1.fr (Fr.row κ wr (S:=fun s=>s = .acty) hkr rfl) (fun s hs e=>by subst e;exact hs),fun j hj => ?_,?_,?_⟩
     ·rw [HX.out.2.ext j (by omega)];exact fT (by omega)
     ·have h1:Below w.heap.size w w1:=by
       rw [HW1.out]
       exact ((zR _ _).alloc (Nat.le_refl _) _).alloc (by simp) _
      exact uQ (h1.trans (HX.out.2.below (by omega) fun j hj=>fT (by omega))) (by omega) _
     ·rcases xW b w.heap.size with h|h
      ·have:=HX.out.1.blk.k
       rw [HX.out.2.ext b (by omega),fT (by omega)] at this
       cases this
      ·exact h
    have HFIN:=Lib.hid hFIN
    clear hFIN HX
    generalize wr.setRow (w.heap.size+1) #[.slice none 0 0, .slice none 0 0, .map (some m0), .slice (some ⟨b3,0,none⟩) k k, .slice (some ⟨b6,0,none⟩) k k, .slice (some ⟨b9,0,none⟩) k k, .slice none 0 0, .slice none 0 0, .int .i64 0, .nilFunc]=W9 at *
    have r0:=hr9.cell 0
    have r1:=hr9.cell 1
    have r2:=hr9.cell 2
    have r3:=hr9.cell 3
    have r4:=hr9.cell 4
    have r5:=hr9.cell 5
    have r6:=hr9.cell 6
    have r7:=hr9.cell 7
    have r8:=hr9.cell 8
    have r9:=hr9.cell 9
    simp only [zA,zB,zC] at r0 r1 r2 r3 r4 r5 r6 r7 r8 r9
    clear hr9 hrb e0 e1 e2 e3 e4 e5 e6 e7 e8 e9
    go_wp2_with fail
    exact kK (v := .agg #[.slice none 0 0, .slice none 0 0, .map (some m0), .slice (some ⟨b3,0,none⟩) k k, .slice (some ⟨b6,0,none⟩) k k, .slice (some ⟨b9,0,none⟩) k k, .slice none 0 0, .slice none 0 0, .int .i64 0, .nilFunc]) (by simp [results,Try.results45,go_sem,r0,r1,r2,r3,r4,r5,r6,r7,r8,r9]) rfl HFIN.out
end Go.Proofs.Yticieifacalocaa
