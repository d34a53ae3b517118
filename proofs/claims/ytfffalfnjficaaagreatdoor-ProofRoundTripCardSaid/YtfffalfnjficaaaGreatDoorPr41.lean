/-
  WORDS: the state of interleavescene's refuter. WALK: its method add.
-/
import Derived.Test.YtfffalfnjficaaaGreatDoorPr40
import Derived.Deep.RegionLaw
import Derived.RegionTactic
namespace Go.Proofs.YtfffalfnjficaaaGreatDoor
open Go.RowKit

/-- append onto a row of the call's own, as one step of a region that draws its order. -/
theorem step_append_own_at {P : Program} {ops : Array Oper} {o : Oper} {a : Act} {w : World} {K : Act → World → Prop} {Q : Exit → Act → World → Prop} {E : Prop} (hgd : o.guard = none) (s x : Operand) (t : TypeId)
    (ho : o.op = .call { callee := .builtin .append, args := #[s, x], argTypes := #[t, t] })
    (base : Nat) (e : TypeId) (i : TypeInfo) (z : Value) (size bytes : Nat) (ht : P.underlying t = some (.slice e)) (hi : P.info? e = some i) (hz : i.zero = some z)
    (hsize : i.size = size) (hby : i.bytes = bytes) (hzs : z.cells.size = size) (hsz : 0 < size)
    (v : Value) (n : Nat) (xs : List Value) (hs : a.eval s = v) (hown : w.ownsRow base e size v n xs)
    (ad : Addr) (m c : Nat) (news : List Value) (hx : a.eval x = .slice (some ad) m c) (hl : news.length = m * size) (hnews : ∀ j u, news[j]? = some u → w.cell? (ad.add j) = some u) (h1 : ∀ u ∈ news, u.oneCell' = true)
    (h63 : n + m ≤ maxLen) (hbytes : (n + m) * bytes ≤ 140737488355328) (hbase : base ≤ w.heap.size)
    (h : ∀ v' w', w'.ownsRow base e size v' (n + m) (xs ++ news) → w.grownBy w' v.ownBlock → (v'.ownBlock = v.ownBlock ∨ v'.ownBlock = some w.heap.size) → K (a.put o.dst v') w') :
    if Region.wanted o (yielded ops a.tmps) = true then Oper.wp P o a w K Q else E := by
  have hw : Region.wanted o (yielded ops a.tmps) = true := by simp [Region.wanted, hgd]
  rw [if_pos hw]
  obtain ⟨v', w', hr, h2, h3, _, h5⟩ := run_append_own_at (P := P) w base t o.type e i z size bytes ht hi hz hsize hby hzs hsz v n xs hown ad m c news hl hnews h1 h63 hbytes hbase
  unfold Oper.wp execOp
  simp only [ho, resolve, invoke, builtin, Sem.run_bind, Sem.run_pure, Result.andThen_ok, List.map_toArray, List.map_cons, List.map_nil, hs, hx, hr]
  exact h v' w' h2 h3 h5

/-- The refuter's blocks: itself (g), the assumed literals (gv), the rows of steps and of clauses. -/
structure RF (w0 wr : World) (g gv : Nat) (f : Form) (fa fc sv cv : Value) (val : List Int) (ps : List (Stp × Value)) (us : List Value) (cs : List (List Int)) : Prop where
  b : Blk wr g 78 #[.int .i64 f.ints, .int .i64 f.bools, fa, fc, .slice (some ⟨gv, 0, none⟩) val.length val.length, sv, cv, .slice none 0 0, .slice none 0 0]
  bv : Blk wr gv 3 (rowI val)
  os : OwnStps wr (g + 1) (fun b => g + 1 ≤ b ∧ some b ≠ cv.ownBlock) sv ps
  om : OwnMat wr (g + 1) (fun b => g + 1 ≤ b ∧ some b ≠ sv.ownBlock) cv us cs
  ap : Apart sv cv
  lo : w0.heap.size ≤ gv
  lt : gv < g
  hi : g + 1 ≤ wr.heap.size
  bl : Below w0.heap.size w0 wr
section
variable {w0 wr w' : World} {g gv : Nat} {f : Form} {fa fc sv cv : Value} {val : List Int} {ps : List (Stp × Value)} {us : List Value} {cs : List (List Int)}
theorem RF.keep (h : RF w0 wr g gv f fa fc sv cv val ps us cs) (hb : Below wr.heap.size wr w') : RF w0 w' g gv f fa fc sv cv val ps us cs :=
  ⟨h.b.keep hb, h.bv.keep hb, h.os.keep hb, h.om.keep hb, h.ap, h.lo, h.lt, Nat.le_trans h.hi hb.size, h.bl.trans (hb.mono h.bl.size)⟩

/-- A block that is neither row. -/
def OffRows (g : Nat) (sv cv : Value) (b : Nat) : Prop := g + 1 ≤ b ∧ some b ≠ sv.ownBlock ∧ some b ≠ cv.ownBlock

/-- Behind the append onto the row of steps, ahead of the store. -/
theorem RF.steps {sv' lv : Value} {s : Stp} {o : Obj} (h : RF w0 wr g gv f fa fc sv cv val ps us cs) (hu : IntsO wr (OffRows g sv cv) lv s.lits) (hs : s.ok)
    (ho : w'.ownsRow (g + 1) 53 6 sv' (ps.length + 1) (ps.flatMap Stp.cells ++ Stp.cells (s, lv))) (hg : (wr.alloc o).grownBy w' sv.ownBlock) (hat : sv'.ownBlock = sv.ownBlock ∨ sv'.ownBlock = some (wr.alloc o).heap.size) :
    RF w0 (w'.setCell ⟨g, 5, none⟩ sv') g gv f fa fc sv' cv val (ps ++ [(s, lv)]) us cs ∧ Blk w' g 78 #[.int .i64 f.ints, .int .i64 f.bools, fa, fc, .slice (some ⟨gv, 0, none⟩) val.length val.length, sv, cv, .slice none 0 0, .slice none 0 0] ∧
    ∀ u xs, IntsO wr (OffRows g sv cv) u xs → IntsO (w'.setCell ⟨g, 5, none⟩ sv') (OffRows g sv' cv) u xs := by
  have hlt : ∀ k, sv.ownBlock = some k → g + 1 ≤ k ∧ k < wr.heap.size := fun k e => h.os.1.lt k e
  have hltc : ∀ k, cv.ownBlock = some k → g + 1 ≤ k ∧ k < wr.heap.size := fun k e => h.om.1.lt k e
  have glt := h.lt
  have hb2 : Blk w' g 78 #[.int .i64 f.ints, .int .i64 f.bools, fa, fc, .slice (some ⟨gv, 0, none⟩) val.length val.length, sv, cv, .slice none 0 0, .slice none 0 0] :=
    (h.b.alloc o).grown hg fun e => by have := hlt _ e.symm; omega
  have hset : w'.grownBy (w'.setCell ⟨g, 5, none⟩ sv') (some g) := grownBy_set0 _ _ _ _
  have hos := h.os.push (s := s) (lv := lv) (hu.mono fun b _ hb => ⟨⟨hb.1, hb.2.2⟩, hb.2.1⟩) hs ho hg hat
  have hom : OwnMat w' (g + 1) (fun b => g + 1 ≤ b ∧ some b ≠ sv'.ownBlock) cv us cs := by
    have h1 : OwnMat wr (g + 1) (fun b => (g + 1 ≤ b ∧ some b ≠ sv.ownBlock) ∧ b < wr.heap.size) cv us cs := h.om.mono fun b hb hp => ⟨hp, hb⟩
    refine ((h1.grown (grown_alloc wr o) (own_none _) fun b _ => by simp).grown hg h.ap.symm.ne fun b hb => hb.1.2).mono fun b _ hb => ⟨hb.1.1, ?_⟩
    rcases hat with e | e <;> rw [e]
    · exact hb.1.2
    · simp; have := hb.2; omega
  have hkey : ∀ u xs, IntsO wr (OffRows g sv cv) u xs → IntsO (w'.setCell ⟨g, 5, none⟩ sv') (OffRows g sv' cv) u xs := by
    intro u xs hx
    have h1 : IntsO wr (fun b => OffRows g sv cv b ∧ b < wr.heap.size) u xs := hx.mono fun b hb hp => ⟨hp, hb⟩
    refine (((h1.grown (grown_alloc wr o) fun b _ => by simp).grown hg fun b hb => hb.1.2.1).grown hset fun b hb => by simp; have := hb.1.1; omega).mono fun b _ hb => ⟨hb.1.1, ?_, hb.1.2.2⟩
    rcases hat with e | e <;> rw [e]
    · exact hb.1.2.1
    · simp; have := hb.2; omega
  refine ⟨⟨hb2.set_ 5 sv', ((h.bv.alloc o).grown hg fun e => by have := hlt _ e.symm; omega).grown hset (by simp; omega), hos.grown hset (own_ne hos.1 (by omega)) fun b hb => by simp; omega, hom.grown hset (own_ne hom.1 (by omega)) fun b hb => by simp; omega, ?_, h.lo, h.lt, ?_, ?_⟩, hb2, hkey⟩
  · exact (h.ap.symm.append (fun k e => by have := hltc k e; simp; omega) hat).symm
  · have h1 := hg.size; have h2 := h.hi; simp at h1 ⊢; omega
  · have hl := h.lo
    exact ((h.bl.alloc h.bl.size o).grown hg (by have := h.bl.size; simp; omega) fun k e => by have := hlt k e; omega).grown hset (by have h1 := hg.size; have h2 := h.bl.size; simp at h1; omega) fun k e => by injection e with e; omega
/-- Behind the append onto the row of clauses, ahead of the store. -/
theorem RF.clauses {cv' u : Value} {c : List Int} {o : Obj} (h : RF w0 wr g gv f fa fc sv cv val ps us cs) (hu : IntsO wr (OffRows g sv cv) u c)
    (ho : w'.ownsRow (g + 1) 44 1 cv' (us.length + 1) (us ++ [u])) (hg : (wr.alloc o).grownBy w' cv.ownBlock) (hat : cv'.ownBlock = cv.ownBlock ∨ cv'.ownBlock = some (wr.alloc o).heap.size) :
    RF w0 (w'.setCell ⟨g, 6, none⟩ cv') g gv f fa fc sv cv' val ps (us ++ [u]) (cs ++ [c]) ∧ Blk w' g 78 #[.int .i64 f.ints, .int .i64 f.bools, fa, fc, .slice (some ⟨gv, 0, none⟩) val.length val.length, sv, cv, .slice none 0 0, .slice none 0 0] := by
  have hlt : ∀ k, cv.ownBlock = some k → g + 1 ≤ k ∧ k < wr.heap.size := fun k e => h.om.1.lt k e
  have hlts : ∀ k, sv.ownBlock = some k → g + 1 ≤ k ∧ k < wr.heap.size := fun k e => h.os.1.lt k e
  have glt := h.lt
  have hb2 : Blk w' g 78 #[.int .i64 f.ints, .int .i64 f.bools, fa, fc, .slice (some ⟨gv, 0, none⟩) val.length val.length, sv, cv, .slice none 0 0, .slice none 0 0] :=
    (h.b.alloc o).grown hg fun e => by have := hlt _ e.symm; omega
  have hset : w'.grownBy (w'.setCell ⟨g, 6, none⟩ cv') (some g) := grownBy_set0 _ _ _ _
  have hom := h.om.push (xs := c) (hu.mono fun b _ hb => ⟨⟨hb.1, hb.2.1⟩, hb.2.2⟩) ho hg hat
  have hos : OwnStps w' (g + 1) (fun b => g + 1 ≤ b ∧ some b ≠ cv'.ownBlock) sv ps := by
    have h1 : OwnStps wr (g + 1) (fun b => (g + 1 ≤ b ∧ some b ≠ cv.ownBlock) ∧ b < wr.heap.size) sv ps := h.os.mono fun b hb hp => ⟨hp, hb⟩
    refine ((h1.grown (grown_alloc wr o) (own_none _) fun b _ => by simp).grown hg h.ap.ne fun b hb => hb.1.2).mono fun b _ hb => ⟨hb.1.1, ?_⟩
    rcases hat with e | e <;> rw [e]
    · exact hb.1.2
    · simp; have := hb.2; omega
  refine ⟨⟨hb2.set_ 6 cv', ((h.bv.alloc o).grown hg fun e => by have := hlt _ e.symm; omega).grown hset (by simp; omega), hos.grown hset (own_ne hos.1 (by omega)) fun b hb => by simp; omega, hom.grown hset (own_ne hom.1 (by omega)) fun b hb => by simp; omega, ?_, h.lo, h.lt, ?_, ?_⟩, hb2⟩
  · exact h.ap.append (fun k e => by have := hlts k e; simp; omega) hat
  · have h1 := hg.size; have h2 := h.hi; simp at h1 ⊢; omega
  · have hl := h.lo
    exact ((h.bl.alloc h.bl.size o).grown hg (by have := h.bl.size; simp; omega) fun k e => by have := hlt k e; omega).grown hset (by have h1 := hg.size; have h2 := h.bl.size; simp at h1; omega) fun k e => by injection e with e; omega

/-- What add leaves. -/
def AddRet (w0 : World) (g gv : Nat) (f : Form) (fa fc : Value) (val : List Int) (ps : List (Stp × Value)) (us : List Value) (cs : List (List Int)) (n : Nat) (e : Ending) (w' : World) : Prop :=
  ∃ sv' cv', e = .returned (.int .i64 (n : Int)) ∧ RF w0 w' g gv f fa fc sv' cv' val ps us cs

set_option maxRecDepth 100000 in
set_option maxHeartbeats 2000000 in
theorem radd_any (s : Stp) (As Au : Option Addr) (cs' cu : Nat) (c : List Int) (h : RF w0 wr g gv f fa fc sv cv val ps us cs) (hl : IntsO wr (OffRows g sv cv) (.slice As s.lits.length cs') s.lits) (hs : s.ok) (hc : IntsO wr (OffRows g sv cv) (.slice Au c.length cu) c) (hp : ps.length ≤ 1000000) (hu : us.length ≤ 1000000) :
    Calls Tryz.prog 45 #[.pointer (some ⟨g, 0, none⟩), .agg #[.int .i64 s.kind, .int .i64 s.index, .slice As s.lits.length cs', .int .i64 s.p, .int .i64 s.q, .int .i64 s.var], .slice Au c.length cu] wr
      (AddRet w0 g gv f fa fc val (ps ++ [(s, .slice As s.lits.length cs')]) (us ++ [.slice Au c.length cu]) (cs ++ [c]) ps.length) := by
  obtain ⟨iT, hiT, hzT0, hzT1, hzT2⟩ := info_parts info_step
  obtain ⟨iS, hiS, hzS0, hzS1, hzS2⟩ := info_parts info_ints
  have HC := Lib.hid hc
  have HL := Lib.hid hl
  have HS := Lib.hid hs
  obtain ⟨Ax, cx, hx, -, -, -⟩ := owns_rd h.os.1
  subst hx
  obtain ⟨Ay, cy, hy, -, -, -⟩ := owns_rd h.om.1
  subst hy
  have H1 : Hid (RF w0 (wr.alloc (.cells #[.int .i64 s.kind, .int .i64 s.index, .slice As s.lits.length cs', .int .i64 s.p, .int .i64 s.q, .int .i64 s.var] 53)) g gv f fa fc (.slice Ax ps.length cx) (.slice Ay us.length cy) val ps us cs) := h.keep ((Below.refl _ _).alloc (Nat.le_refl _) _)
  have B1 := Blk.new wr 53 #[.int .i64 s.kind, .int .i64 s.index, .slice As s.lits.length cs', .int .i64 s.p, .int .i64 s.q, .int .i64 s.var]
  have hsz : (wr.alloc (.cells #[.int .i64 s.kind, .int .i64 s.index, .slice As s.lits.length cs', .int .i64 s.p, .int .i64 s.q, .int .i64 s.var] 53)).heap.size = wr.heap.size + 1 := by simp
  have hbW : Below wr.heap.size wr (wr.alloc (.cells #[.int .i64 s.kind, .int .i64 s.index, .slice As s.lits.length cs', .int .i64 s.p, .int .i64 s.q, .int .i64 s.var] 53)) := (Below.refl _ _).alloc (Nat.le_refl _) _
  clear hc hl hs
  go_enter Tryz.func45, Tryz.ntmps45
  go_wp2_with fail
  generalize wr.alloc (.cells #[.int .i64 s.kind, .int .i64 s.index, .slice As s.lits.length cs', .int .i64 s.p, .int .i64 s.q, .int .i64 s.var] 53) = W at *
  have r0 := B1.cell 0
  have r1 := B1.cell 1
  have r2 := B1.cell 2
  have r3 := B1.cell 3
  have r4 := B1.cell 4
  have r5 := B1.cell 5
  have q5 := H1.out.b.cell 5
  simp only [List.getElem?_toArray, List.getElem?_cons_zero, List.getElem?_cons_succ] at r0 r1 r2 r3 r4 r5 q5
  have HBW := Lib.hid hbW
  have HSZ := Lib.hid hsz
  have HLW : Hid (IntsO W (OffRows g (.slice Ax ps.length cx) (.slice Ay us.length cy)) (.slice As s.lits.length cs') s.lits) := HL.out.keep HBW.out
  have HN : Hid (∀ j u, [.int .i64 s.kind, .int .i64 s.index, .slice As s.lits.length cs', .int .i64 s.p, .int .i64 s.q, .int .i64 s.var][j]? = some u → (W.alloc (.cells #[.int .i64 s.kind, .int .i64 s.index, .slice As s.lits.length cs', .int .i64 s.p, .int .i64 s.q, .int .i64 s.var] 53)).cell? ((⟨W.heap.size, 0, none⟩ : Addr).add j) = some u) := cells_at W _ [.int .i64 s.kind, .int .i64 s.index, .slice As s.lits.length cs', .int .i64 s.p, .int .i64 s.q, .int .i64 s.var] rfl
  have HO : Hid (∀ u ∈ ([.int .i64 s.kind, .int .i64 s.index, .slice As s.lits.length cs', .int .i64 s.p, .int .i64 s.q, .int .i64 s.var] : List Value), u.oneCell' = true) := by
    refine Lib.hid ?_
    intro u hu; simp at hu; rcases hu with rfl | rfl | rfl | rfl | rfl | rfl <;> rfl
  have H63 : Hid (ps.length + 1 ≤ maxLen) := by refine Lib.hid ?_; unfold maxLen; omega
  have HBY : Hid ((ps.length + 1) * 64 ≤ 140737488355328) := by refine Lib.hid ?_; omega
  have HBA : Hid (g + 1 ≤ (W.alloc (.cells #[.int .i64 s.kind, .int .i64 s.index, .slice As s.lits.length cs', .int .i64 s.p, .int .i64 s.q, .int .i64 s.var] 53)).heap.size) := by
    refine Lib.hid ?_
    have := H1.out.hi
    simp at this ⊢; omega
  have q5a := (H1.out.b.alloc (.cells #[.int .i64 s.kind, .int .i64 s.index, .slice As s.lits.length cs', .int .i64 s.p, .int .i64 s.q, .int .i64 s.var] 53)).cell 5
  simp only [List.getElem?_toArray, List.getElem?_cons_zero, List.getElem?_cons_succ] at q5a
  clear hbW hsz B1
  go_region_law (refine step_append_own_at rfl (.tmp 11) (.tmp 13) 30 rfl (g + 1) 53 iT zT 6 64 Tryz.underlying30 hiT hzT0 hzT1 hzT2 rfl (by decide) (.slice Ax ps.length cx) ps.length (ps.flatMap Stp.cells) (by simp [Act.eval]) (H1.out.os.1.alloc _).drew ⟨W.heap.size, 0, none⟩ 1 1 [.int .i64 s.kind, .int .i64 s.index, .slice As s.lits.length cs', .int .i64 s.p, .int .i64 s.q, .int .i64 s.var] (by simp [Act.eval]) rfl HN.out HO.out H63.out HBY.out HBA.out ?_; intro v' w2 hown hg hat; obtain ⟨A', c', hv', -, -, -⟩ := owns_rd hown; subst hv'; obtain ⟨hrf, hb2, hky⟩ := H1.out.steps (s := s) HLW.out HS.out hown (show (W.alloc _).grownBy w2 _ from ⟨hg.os, hg.tape, hg.output, hg.size, hg.block⟩) hat; have HRF := Lib.hid hrf; have HCW := Lib.hid (hky _ _ (HC.out.keep HBW.out)); have c5 := hb2.cell 5; have z5 := hb2.frozen 5; simp only [List.getElem?_toArray, List.getElem?_cons_zero, List.getElem?_cons_succ] at c5; clear hrf hb2 hky hown hg hat)
  all_goals
    clear r0 r1 r2 r3 r4 r5 q5 q5a c5 z5 HN HO H63 HBY HBA HLW
    generalize w2.setCell ⟨g, 5, none⟩ (.slice A' (ps.length + 1) c') = w3 at *
    have q6 := HRF.out.b.cell 6
    simp only [List.getElem?_toArray, List.getElem?_cons_zero, List.getElem?_cons_succ] at q6
    have HO1 : Hid (∀ u ∈ ([.slice Au c.length cu] : List Value), u.oneCell' = true) := by
      refine Lib.hid ?_
      intro u hu; simp at hu; subst hu; rfl
    have HM1 : Hid (us.length + 1 ≤ maxLen) := by refine Lib.hid ?_; unfold maxLen; omega
    have HM2 : Hid ((us.length + 1) * 24 ≤ 140737488355328) := by refine Lib.hid ?_; omega
    have HM3 : Hid (g + 1 ≤ (w3.alloc (.cells #[.slice Au c.length cu] 44)).heap.size) := by
      refine Lib.hid ?_
      have := HRF.out.hi
      simp; omega
    go_wp2_with (at_builtin; refine wpList_append_own_at _ rfl _ _ 33 rfl (g + 1) 44 iS (.slice none 0 0) 1 24 Tryz.underlying33 hiS hzS0 hzS1 hzS2 rfl (by decide) _ _ _ rfl (HRF.out.om.1.alloc _) ⟨w3.heap.size, 0, none⟩ 1 1 [.slice Au c.length cu] rfl rfl (one_at w3 _ _) HO1.out HM1.out HM2.out HM3.out ?_; intro v4 w4 hown hg _ hat; obtain ⟨A4, c4, hv4, -, -, -⟩ := owns_rd hown; subst hv4; obtain ⟨hrf, hb4⟩ := HRF.out.clauses HCW.out hown hg hat; have HR4 := Lib.hid hrf; have c6 := hb4.cell 6; have c5 := hb4.cell 5; have z6 := hb4.frozen 6; simp only [List.getElem?_toArray, List.getElem?_cons_zero, List.getElem?_cons_succ] at c5 c6; clear hrf hb4 hown hg hat)
    go_wp2_with fail
    go_ret
    exact ⟨_, _, rfl, HR4.out⟩
end
/- WALK: the refuter's method fails. -/
open Go.RowKit

/-- The literal is assumed to be false. -/
def falseB (val : List Int) (x : Int) : Bool := val.getD (x.natAbs - 1) 0 == -x
def failsB (val : List Int) (c : List Int) : Bool := c.all (falseB val)

set_option maxRecDepth 100000 in
set_option maxHeartbeats 1000000 in
theorem rfails_any {w0 W : World} {g gv : Nat} {f : Form} {fa fc sv cv : Value} {val : List Int} {ps : List (Stp × Value)} {us : List Value} {cs : List (List Int)} (v : Value) (c : List Int) (h : RF w0 W g gv f fa fc sv cv val ps us cs) (hv : Ints W v c) (hc : ∀ x ∈ c, x ≠ 0 ∧ -(val.length : Int) ≤ x ∧ x ≤ val.length) (hl : val.length ≤ 1024) :
    Calls Tryz.prog 59 #[.pointer (some ⟨g, 0, none⟩), v] W fun e w' => e = .returned (.bool (failsB val c)) ∧ Below W.heap.size W w' := by
  have H1 := Lib.hid h
  have HC := Lib.hid hc
  obtain ⟨A, cp, rfl, h1, h2, h3, hr⟩ := hv
  unfold maxLen at h2
  have HR := Lib.hid hr
  clear h3 hr hc h
  go_enter Tryz.func59, Tryz.ntmps59
  go_wp2_with fail
  go_loopw [9] (fun i wr => ∃ k : Nat, k ≤ c.length ∧ i = .int .i64 k ∧ (c.take k).all (falseB val) = true ∧ Below W.heap.size W wr) (fun i _ => c.length - (intOf i).toNat)
  case atStart => exact ⟨0, by omega, rfl, by simp, Below.refl _ _⟩
  case round =>
    obtain ⟨k, hk, rfl, hall, hbl⟩ := hrel
    have HB := Lib.hid hbl
    have HALL := Lib.hid hall
    have H2 := Lib.hid (H1.out.keep hbl)
    clear hbl hall
    by_cases hlt : k < c.length
    · obtain ⟨x, hx⟩ : ∃ x, c[k]? = some x := ⟨_, List.getElem?_eq_getElem hlt⟩
      obtain ⟨b1, o1, rfl, hb1, hc1⟩ := (HR.out.keep HB.out).int hx
      have HX := Lib.hid hx
      obtain ⟨x0, x1, x2⟩ := HC.out x (List.mem_of_getElem? hx)
      obtain ⟨n, hn⟩ : ∃ n : Nat, x.natAbs = n + 1 := ⟨x.natAbs - 1, by omega⟩
      have hnl : n < val.length := by omega
      obtain ⟨y, hy⟩ : ∃ y, val[n]? = some y := ⟨_, List.getElem?_eq_getElem hnl⟩
      have q4 := H2.out.b.cell 4
      have p1 := H2.out.bv.cell n
      rw [rowI_at hy] at p1
      simp only [List.getElem?_toArray, List.getElem?_cons_zero, List.getElem?_cons_succ] at q4
      have HS : Hid (∀ m, Calls Tryz.prog 37 #[.int .i64 x] (wr.drewN m) fun e w' => e = .returned (.int .i64 ((n : Int) + 1)) ∧ w' = wr.drewN m) := fun m => by
        have h := abs_any x (wr.drewN m) ⟨by omega, by omega⟩ (by omega)
        rw [hn] at h
        exact h.mono fun e w' hh => ⟨hh.1, hh.2.symm⟩
      have HF : Hid (falseB val x = (y == -x)) := by
        refine Lib.hid ?_
        unfold falseB
        rw [hn, Nat.add_sub_cancel, List.getD_eq_getElem?_getD, hy]; rfl
      have y1 : IntKind.i64.wrap ((n : Int) + 1 - 1) = (n : Int) := by rw [show (n : Int) + 1 - 1 = (n : Int) by omega]; exact IntWalk.i64_in _ (by omega)
      have y2 : IntKind.i64.wrap (-x) = -x := IntWalk.i64_in _ (by omega)
      have y3 : (n : Int) < (val.length : Int) := by omega
      clear hx hy hn
      by_cases e : y = -x
      · have de : (y != -x) = false := by simp [e]
        have HN : Hid ((c.take (k + 1)).all (falseB val) = true) := all_take_succ HALL.out HX.out (by rw [HF.out]; simp [e])
        clear e
        go_wp2_with fail
        go_quiet ((go_at_call 37; exact Calls.quiet_of_same (HS.out _)))
        clear y1 y2
        go_wp2_with fail
        go_roundw
        case rel => exact ⟨k + 1, by omega, by go_num, HN.out, bdrew HB.out _⟩
        case measure => simp [intOf]; omega
      · have de : (y != -x) = true := by simp [e]
        have HN : Hid (failsB val c = false) := by
          refine Lib.hid ?_
          unfold failsB
          rw [List.all_eq_false]
          exact ⟨x, List.mem_of_getElem? HX.out, by rw [HF.out]; simp [e]⟩
        clear e
        go_wp2_with fail
        go_quiet ((go_at_call 37; exact Calls.quiet_of_same (HS.out _)))
        clear y1 y2
        go_wp2_with fail
        go_ret
        exact ⟨by rw [HN.out]; rfl, bdrew HB.out _⟩
    · have HN : Hid (failsB val c = true) := all_take HALL.out (by omega)
      go_wp2_with fail
      go_ret
      exact ⟨by rw [HN.out]; rfl, HB.out⟩
end Go.Proofs.YtfffalfnjficaaaGreatDoor
