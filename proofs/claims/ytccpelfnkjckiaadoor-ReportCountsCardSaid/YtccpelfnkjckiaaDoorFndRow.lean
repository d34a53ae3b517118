/-
  WORDS: a row of findings that the call has made; findings as numbers.
-/
import Derived.Test.YtccpelfnkjckiaaDoorRepRow
import Derived.Test.YtccpelfnkjckiaaDoorRepFnd
import Derived.Test.YtccpelfnkjckiaaDoorTape
import Derived.Test.YtccpelfnkjckiaaDoorAwake39
import Derived.Deep.RegionHeld3
namespace Go.Proofs.YtccpelfnkjckiaaDoor
open Go.RowKit Go.Sort

/-- The sites of a finding, as a value. -/
def Fnd.sv (q : Fnd × FndM) : Value := .slice q.2.sA q.1.sites.length q.2.sc
/-- A row of findings that the call has made; their sites lie outside of it, from base on. -/
def OwnFnds (w : World) (base : Nat) (v : Value) (ps : List (Fnd × FndM)) : Prop :=
  w.ownsRow base 58 12 v ps.length (ps.flatMap Fnd.cells) ∧ ∀ q ∈ ps, IntsO w (fun b => base ≤ b ∧ some b ≠ v.ownBlock) (Fnd.sv q) q.1.sites ∧ I64 q.1.start ∧ I64 q.1.kind ∧ q.1.wl ≤ maxLen ∧ q.1.sites.length ≤ 4
section
variable {w w' : World} {base : Nat} {v : Value} {ps : List (Fnd × FndM)}
theorem OwnFnds.nil (w : World) (base : Nat) : OwnFnds w base (.slice none 0 0) [] := ⟨World.ownsRow_nil _ _ _ _, by simp⟩
theorem OwnFnds.keep (h : OwnFnds w base v ps) (hb : Below w.heap.size w w') : OwnFnds w' base v ps := ⟨owns_keep h.1 hb, fun q hq => ⟨(h.2 q hq).1.keep hb, (h.2 q hq).2⟩⟩
theorem OwnFnds.fnds (h : OwnFnds w base v ps) : ∃ A c, v = .slice A ps.length c ∧ ps.length ≤ c ∧ c ≤ maxLen ∧ Rd w A (ps.flatMap Fnd.cells) ∧ (∀ q ∈ ps, FndOk w q) ∧ ∀ q ∈ ps, q.1.sites.length ≤ 4 := by
  obtain ⟨A, c, h1, h2, h3, h4⟩ := owns_rd h.1
  exact ⟨A, c, h1, h2, h3, h4, fun q hq => ⟨(h.2 q hq).1.ints, (h.2 q hq).2.1, (h.2 q hq).2.2.1, (h.2 q hq).2.2.2.1⟩, fun q hq => (h.2 q hq).2.2.2.2⟩
theorem OwnFnds.push {v' : Value} {o : Obj} {q0 : Fnd × FndM} (h : OwnFnds w base v ps) (hu : IntsO w (fun b => base ≤ b ∧ some b ≠ v.ownBlock) (Fnd.sv q0) q0.1.sites) (hs : I64 q0.1.start ∧ I64 q0.1.kind ∧ q0.1.wl ≤ maxLen ∧ q0.1.sites.length ≤ 4)
    (ho : w'.ownsRow base 58 12 v' (ps.length + 1) (ps.flatMap Fnd.cells ++ Fnd.cells q0)) (hg : (w.alloc o).grownBy w' v.ownBlock) (hat : v'.ownBlock = v.ownBlock ∨ v'.ownBlock = some (w.alloc o).heap.size) : OwnFnds w' base v' (ps ++ [q0]) := by
  have key : ∀ {u xs}, IntsO w (fun b => base ≤ b ∧ some b ≠ v.ownBlock) u xs → IntsO w' (fun b => base ≤ b ∧ some b ≠ v'.ownBlock) u xs := by
    intro u xs h
    refine IntsO.mono (P := fun b => (base ≤ b ∧ some b ≠ v.ownBlock) ∧ b < w.heap.size) ?_ fun b _ hb => ⟨hb.1.1, ?_⟩
    · have h1 : IntsO w (fun b => (base ≤ b ∧ some b ≠ v.ownBlock) ∧ b < w.heap.size) u xs := h.mono fun b h1 h2 => ⟨h2, h1⟩
      exact (h1.grown (grown_alloc w o) (fun b _ => by simp)).grown hg fun b hb => hb.1.2
    · rcases hat with e | e <;> rw [e]
      · exact hb.1.2
      · simp; have := hb.2; omega
  refine ⟨by simpa using ho, fun q hq => ?_⟩
  rcases List.mem_append.1 hq with hq | hq
  · exact ⟨key (h.2 q hq).1, (h.2 q hq).2⟩
  · rw [List.mem_singleton] at hq; subst hq; exact ⟨key hu, hs⟩
end

/-- A finding made of numbers. -/
structure FIn where
  st : Int
  kd : Int
  ln : Int
  sites : List Int
  lost : Bool
def FIn.cells (q : FIn × (Option Addr × Nat)) : List Value := [.int .u8 q.1.st, .int .u8 q.1.kd, .int .u8 q.1.ln, .slice q.2.1 q.1.sites.length q.2.2, .bool q.1.lost]
def FInOk (w : World) (q : FIn × (Option Addr × Nat)) : Prop := Byts w (.slice q.2.1 q.1.sites.length q.2.2) q.1.sites ∧ (0 ≤ q.1.st ∧ q.1.st ≤ 255) ∧ (0 ≤ q.1.kd ∧ q.1.kd ≤ 255) ∧ (0 ≤ q.1.ln ∧ q.1.ln ≤ 255)
/-- The value v is a slice of findings made of numbers. -/
def FIns (w : World) (v : Value) (qs : List (FIn × (Option Addr × Nat))) : Prop := ∃ A c, v = .slice A qs.length c ∧ qs.length ≤ c ∧ c ≤ maxLen ∧ Rd w A (qs.flatMap FIn.cells) ∧ ∀ q ∈ qs, FInOk w q
theorem FInOk.keep {w w' : World} {q : FIn × (Option Addr × Nat)} (h : FInOk w q) (hb : Below w.heap.size w w') : FInOk w' q := ⟨h.1.keep hb, h.2⟩
theorem FIns.keep {w w' : World} {v : Value} {qs : List (FIn × (Option Addr × Nat))} (h : FIns w v qs) (hb : Below w.heap.size w w') : FIns w' v qs := by
  obtain ⟨A, c, h1, h2, h3, h4, h5⟩ := h
  exact ⟨A, c, h1, h2, h3, h4.keep hb, fun q hq => (h5 q hq).keep hb⟩
theorem FIns.at_ {w : World} {A : Option Addr} {qs : List (FIn × (Option Addr × Nat))} (h : Rd w A (qs.flatMap FIn.cells)) {k : Nat} {q : FIn × (Option Addr × Nat)} (hk : qs[k]? = some q) :
    ∃ b off, A = some ⟨b, off, none⟩ ∧ b < w.heap.size ∧ w.cell? ⟨b, off + k * 5, none⟩ = some (.int .u8 q.1.st) ∧ w.cell? ⟨b, off + k * 5 + 1, none⟩ = some (.int .u8 q.1.kd) ∧ w.cell? ⟨b, off + k * 5 + 2, none⟩ = some (.int .u8 q.1.ln) ∧ w.cell? ⟨b, off + k * 5 + 3, none⟩ = some (.slice q.2.1 q.1.sites.length q.2.2) ∧ w.cell? ⟨b, off + k * 5 + 4, none⟩ = some (.bool q.1.lost) := by
  have hg : ∀ r, r < 5 → (qs.flatMap FIn.cells)[k * 5 + r]? = (FIn.cells q)[r]? := fun r hr => flat_getR (g := FIn.cells) (m := 5) (fun _ => rfl) hk hr
  obtain ⟨b, off, hA, hlt, hc⟩ := h (by have := (List.getElem?_eq_some_iff.1 ((hg 0 (by omega)).trans (show (FIn.cells q)[0]? = some _ from rfl))).1; omega)
  have hx : ∀ r u, r < 5 → (FIn.cells q)[r]? = some u → w.cell? ⟨b, off + k * 5 + r, none⟩ = some u := fun r u hr hu => by
    have := hc _ _ ((hg r hr).trans hu)
    rwa [← Nat.add_assoc] at this
  exact ⟨b, off, hA, hlt, hx 0 _ (by omega) rfl, hx 1 _ (by omega) rfl, hx 2 _ (by omega) rfl, hx 3 _ (by omega) rfl, hx 4 _ (by omega) rfl⟩
/-- What Findings returns: at most 30 findings of at most four sites. -/
def FRet (w : World) (e : Ending) (w' : World) : Prop :=
  ∃ v ps, e = .returned v ∧ OwnFnds w' w.heap.size v ps ∧ ps.length ≤ 30 ∧ Below w.heap.size w w'
/- WALK: interleavescene.Findings. -/
open Go.RowKit

/-- The zero value of a finding: twelve cells. -/
theorem info_fnd0 : (Tryd.prog.info? 58).map (fun i => (i.zero.map (fun z => z.cells.size), i.size, i.bytes)) = some (some 12, 12, 160) := by kernel_rfl
theorem info_fnd : ∃ i z, Tryd.prog.info? 58 = some i ∧ i.zero = some z ∧ i.size = 12 ∧ i.bytes = 160 ∧ z.cells.size = 12 := by
  have h := info_fnd0
  cases hi : Tryd.prog.info? 58 with
  | none => rw [hi] at h; simp at h
  | some i =>
    rw [hi] at h
    simp only [Option.map_some, Option.some.injEq, Prod.mk.injEq] at h
    cases hz : i.zero with
    | none => rw [hz] at h; simp at h
    | some z =>
      rw [hz] at h
      simp only [Option.map_some, Option.some.injEq] at h
      exact ⟨i, z, rfl, hz, h.2.1, h.2.2, h.1⟩

/-- The findings so far. -/
structure FdS (w wr : World) (v : Value) (ps : List (Fnd × FndM)) : Prop where
  bl : Below w.heap.size w wr
  own : OwnFnds wr w.heap.size v ps
theorem FdS.keep {w wr w' : World} {v : Value} {ps : List (Fnd × FndM)} (h : FdS w wr v ps) (hb : Below wr.heap.size wr w') : FdS w w' v ps := ⟨h.bl.trans (hb.mono h.bl.size), h.own.keep hb⟩

/-- A finding under way: it lies in block fb behind those of wr; its sites lie from N1 on. -/
structure FdI (wr wi : World) (N1 : Nat) (st kd : Int) (q : FIn × (Option Addr × Nat)) (lost : Bool) (m : Nat) (mA : Addr) (sv : Value) (ss : List Int) : Prop where
  bl : Below wr.heap.size wr wi
  hi : N1 ≤ wi.heap.size
  h1 : wr.heap.size + 2 ≤ N1
  fx : Blk wi wr.heap.size 92 (FIn.cells q).toArray
  ff : Blk wi (wr.heap.size + 1) 58 #[.int .i64 st, .int .i64 kd, .int .i64 0, .int .i64 0, .int .i64 0, .int .i64 0, .slice none 0 0, .bool (!lost), .slice (some mA) m m, .slice none 0 0, .int .i64 0, sv]
  own : Own wi N1 sv ss
section
variable {wr wi w' : World} {N1 : Nat} {st kd : Int} {q : FIn × (Option Addr × Nat)} {lost : Bool} {m : Nat} {mA : Addr} {sv sv' : Value} {ss : List Int} {x : Int}
theorem FdI.push {o : Obj} (h : FdI wr wi N1 st kd q lost m mA sv ss) (hx : I64 x)
    (ho : w'.ownsRow N1 3 1 sv' (ss.length + 1) (ss.map (Value.int .i64) ++ [.int .i64 x])) (hg : (wi.alloc o).grownBy w' sv.ownBlock) :
    FdI wr (w'.setCell ⟨wr.heap.size + 1, 11, none⟩ sv') N1 st kd q lost m mA sv' (ss ++ [x]) ∧ Blk w' (wr.heap.size + 1) 58 #[.int .i64 st, .int .i64 kd, .int .i64 0, .int .i64 0, .int .i64 0, .int .i64 0, .slice none 0 0, .bool (!lost), .slice (some mA) m m, .slice none 0 0, .int .i64 0, sv] := by
  have hlt : ∀ k, sv.ownBlock = some k → N1 ≤ k := fun k e => (h.own.1.lt k e).1
  have e1 := h.h1
  have e2 := h.hi
  have e3 : wi.heap.size + 1 ≤ w'.heap.size := by have := hg.size; simpa using this
  have hf : Blk w' (wr.heap.size + 1) 58 #[.int .i64 st, .int .i64 kd, .int .i64 0, .int .i64 0, .int .i64 0, .int .i64 0, .slice none 0 0, .bool (!lost), .slice (some mA) m m, .slice none 0 0, .int .i64 0, sv] := (h.ff.alloc o).grown hg fun e => by have := hlt _ e.symm; omega
  have hset : w'.grownBy (w'.setCell ⟨wr.heap.size + 1, 11, none⟩ sv') (some (wr.heap.size + 1)) := grownBy_set0 _ _ _ _
  have how : Own w' N1 sv' (ss ++ [x]) := ⟨by simpa using ho, fun y hy => by
    rcases List.mem_append.1 hy with hy | hy
    · exact h.own.2 y hy
    · rw [List.mem_singleton] at hy; subst hy; exact hx⟩
  refine ⟨⟨?_, ?_, e1, ?_, hf.set_ 11 _, how.1.kept hset (own_ne how.1 (by omega)), how.2⟩, hf⟩
  · have h3 : Below wr.heap.size wr w' := (h.bl.alloc h.bl.size o).grown hg (by have := h.bl.size; simp; omega) fun k e => by have := hlt k e; omega
    exact h3.setCell (by simp) _
  · simp; omega
  · exact ((h.fx.alloc o).grown hg fun e => by have := hlt _ e.symm; omega).far (by simp) _
end

def set10 (w : World) (g : Nat) (v1 v2 v3 v4 v5 v6 v7 v8 v9 v10 : Value) : World := ((((((((((w.setCell ⟨g, 1, none⟩ v1).setCell ⟨g, 2, none⟩ v2).setCell ⟨g, 3, none⟩ v3).setCell ⟨g, 4, none⟩ v4).setCell ⟨g, 5, none⟩ v5).setCell ⟨g, 6, none⟩ v6).setCell ⟨g, 7, none⟩ v7).setCell ⟨g, 8, none⟩ v8).setCell ⟨g, 9, none⟩ v9).setCell ⟨g, 10, none⟩ v10).drew
theorem blk_drewF {w : World} {g : Nat} {t : TypeId} {cs : Array Value} (h : Blk w g t cs) : Blk w.drew g t cs := h
theorem blk_set10 {w : World} {g : Nat} {t : TypeId} {u0 u1 u2 u3 u4 u5 u6 u7 u8 u9 u10 u11 : Value} (h : Blk w g t #[u0, u1, u2, u3, u4, u5, u6, u7, u8, u9, u10, u11]) (v1 v2 v3 v4 v5 v6 v7 v8 v9 v10 : Value) : Blk (set10 w g v1 v2 v3 v4 v5 v6 v7 v8 v9 v10) g t #[u0, v1, v2, v3, v4, v5, v6, v7, v8, v9, v10, u11] := by
  unfold set10
  have h1 : Blk _ g t #[u0, v1, u2, u3, u4, u5, u6, u7, u8, u9, u10, u11] := h.set_ 1 v1
  have h2 : Blk _ g t #[u0, v1, v2, u3, u4, u5, u6, u7, u8, u9, u10, u11] := h1.set_ 2 v2
  have h3 : Blk _ g t #[u0, v1, v2, v3, u4, u5, u6, u7, u8, u9, u10, u11] := h2.set_ 3 v3
  have h4 : Blk _ g t #[u0, v1, v2, v3, v4, u5, u6, u7, u8, u9, u10, u11] := h3.set_ 4 v4
  have h5 : Blk _ g t #[u0, v1, v2, v3, v4, v5, u6, u7, u8, u9, u10, u11] := h4.set_ 5 v5
  have h6 : Blk _ g t #[u0, v1, v2, v3, v4, v5, v6, u7, u8, u9, u10, u11] := h5.set_ 6 v6
  have h7 : Blk _ g t #[u0, v1, v2, v3, v4, v5, v6, v7, u8, u9, u10, u11] := h6.set_ 7 v7
  have h8 : Blk _ g t #[u0, v1, v2, v3, v4, v5, v6, v7, v8, u9, u10, u11] := h7.set_ 8 v8
  have h9 : Blk _ g t #[u0, v1, v2, v3, v4, v5, v6, v7, v8, v9, u10, u11] := h8.set_ 9 v9
  have h10 : Blk _ g t #[u0, v1, v2, v3, v4, v5, v6, v7, v8, v9, v10, u11] := h9.set_ 10 v10
  exact blk_drewF h10
theorem blk_far10 {w : World} {g b : Nat} {t : TypeId} {cs : Array Value} (h : Blk w b t cs) (hne : b ≠ g) (v1 v2 v3 v4 v5 v6 v7 v8 v9 v10 : Value) : Blk (set10 w g v1 v2 v3 v4 v5 v6 v7 v8 v9 v10) b t cs := by
  unfold set10
  have h1 := h.far (p := ⟨g, 1, none⟩) hne v1
  have h2 := h1.far (p := ⟨g, 2, none⟩) hne v2
  have h3 := h2.far (p := ⟨g, 3, none⟩) hne v3
  have h4 := h3.far (p := ⟨g, 4, none⟩) hne v4
  have h5 := h4.far (p := ⟨g, 5, none⟩) hne v5
  have h6 := h5.far (p := ⟨g, 6, none⟩) hne v6
  have h7 := h6.far (p := ⟨g, 7, none⟩) hne v7
  have h8 := h7.far (p := ⟨g, 8, none⟩) hne v8
  have h9 := h8.far (p := ⟨g, 9, none⟩) hne v9
  have h10 := h9.far (p := ⟨g, 10, none⟩) hne v10
  exact blk_drewF h10
theorem below_set10 {B : Nat} {a w : World} {g : Nat} (h : Below B a w) (hg : B ≤ g) (v1 v2 v3 v4 v5 v6 v7 v8 v9 v10 : Value) : Below B a (set10 w g v1 v2 v3 v4 v5 v6 v7 v8 v9 v10) :=
  ((((((((((h.setCell (p := ⟨g, 1, none⟩) hg v1).setCell (p := ⟨g, 2, none⟩) hg v2).setCell (p := ⟨g, 3, none⟩) hg v3).setCell (p := ⟨g, 4, none⟩) hg v4).setCell (p := ⟨g, 5, none⟩) hg v5).setCell (p := ⟨g, 6, none⟩) hg v6).setCell (p := ⟨g, 7, none⟩) hg v7).setCell (p := ⟨g, 8, none⟩) hg v8).setCell (p := ⟨g, 9, none⟩) hg v9).setCell (p := ⟨g, 10, none⟩) hg v10).drew
theorem size_set10 (w : World) (g : Nat) (v1 v2 v3 v4 v5 v6 v7 v8 v9 v10 : Value) : (set10 w g v1 v2 v3 v4 v5 v6 v7 v8 v9 v10).heap.size = w.heap.size := by
  unfold set10; simp
/-- One more finding. -/
theorem FdS.push {w wo wi w' : World} {N1 : Nat} {st kd : Int} {q : FIn × (Option Addr × Nat)} {lost : Bool} {m : Nat} {mA : Addr} {ov ov' : Value} {ss : List Int} {ps : List (Fnd × FndM)} {As : Option Addr} {cs : Nat} {o : Obj} {f : Fnd × FndM}
    (h : FdS w wo ov ps) (hi : FdI wo wi N1 st kd q lost m mA (.slice As ss.length cs) ss) (hk : I64 kd ∧ I64 st) (hm : m ≤ maxLen) (hs : ss.length ≤ 4) (hf : f = (⟨st, kd, !lost, m, ss⟩, ⟨0, 0, 0, 0, none, 0, 0, some mA, m, none, 0, 0, 0, As, cs⟩))
    (ho : w'.ownsRow w.heap.size 58 12 ov' (ps.length + 1) (ps.flatMap Fnd.cells ++ Fnd.cells f)) (hg : (wi.alloc o).grownBy w' ov.ownBlock) (hat : ov'.ownBlock = ov.ownBlock ∨ ov'.ownBlock = some (wi.alloc o).heap.size) : FdS w w' ov' (ps ++ [f]) := by
  have hk2 := h.keep hi.bl
  have hlt : ∀ k, ov.ownBlock = some k → w.heap.size ≤ k ∧ k < wo.heap.size := fun k e => h.own.1.lt k e
  have h1 := hi.h1
  refine ⟨(hk2.bl.alloc hk2.bl.size o).grown hg (by have := hk2.bl.size; simp; omega) fun k e => (hlt k e).1, ?_⟩
  refine hk2.own.push ?_ ?_ ho hg hat
  · subst hf
    refine hi.own.intsO fun b h2 h3 h4 => ⟨by have := h.bl.size; omega, fun e => by have := (hlt b e.symm).2; omega⟩
  · subst hf; exact ⟨hk.2, hk.1, hm, hs⟩

set_option maxRecDepth 100000 in
set_option maxHeartbeats 4000000 in
theorem findings_any (v : Value) (qs : List (FIn × (Option Addr × Nat))) (w : World) (h : FIns w v qs) : Calls Tryd.prog 19 #[v] w (FRet w) := by
  obtain ⟨A, c, rfl, h1, h2, hr, hq⟩ := h
  have HR := Lib.hid hr
  have HQ := Lib.hid hq
  obtain ⟨iI, hiI, hzI0, hzI1, hzI2⟩ := info_parts info_int
  obtain ⟨iF, zF, hiF, hzF0, hzF1, hzF2, hzF3⟩ := info_fnd
  unfold maxLen at h2
  clear hr hq
  go_enter Tryd.func19, Tryd.ntmps19
  go_wp2_with fail
  go_loopw [3, 11] (fun ov iv wr => ∃ (i : Nat) (ps : List (Fnd × FndM)), i ≤ qs.length ∧ i ≤ 30 ∧ iv = .int .i64 i ∧ Hid (ps.length = i) ∧ Hid (FdS w wr ov ps)) (fun _ iv _ => qs.length - (intOf iv).toNat)
  case atStart => exact ⟨0, [], by omega, by omega, rfl, Lib.hid rfl, Lib.hid ⟨Below.refl _ _, OwnFnds.nil _ _⟩⟩
  case round =>
    obtain ⟨i, ps, hi, hi3, rfl, HPL, HFS⟩ := hrel
    obtain ⟨wo, hwo⟩ : ∃ wo : World, wo = wr := ⟨_, rfl⟩
    rw [← hwo] at HFS ⊢
    clear hwo
    obtain ⟨Ao, co, hov, -, -, -⟩ := owns_rd HFS.out.own.1
    subst hov
    by_cases hgo : i < qs.length ∧ i < 30
    · obtain ⟨hil, hi30⟩ := hgo
      obtain ⟨q, hq⟩ : ∃ q, qs[i]? = some q := ⟨_, List.getElem?_eq_getElem hil⟩
      obtain ⟨b, off, rfl, hbl, c0, c1, c2, c3, c4⟩ := FIns.at_ (HR.out.keep HFS.out.bl) hq
      obtain ⟨hbs, ⟨a1, a2⟩, ⟨a3, a4⟩, a5, a6⟩ := HQ.out q (List.mem_of_getElem? hq)
      have HBS := Lib.hid (hbs.keep HFS.out.bl)
      obtain ⟨⟨st, kd, ln, L, lost⟩, sA, sc⟩ := q
      simp only at c0 c1 c2 c3 c4 a1 a2 a3 a4 a5 a6 HBS
      have li : (i : Int) < qs.length := by omega
      have l30 : ¬ (30 : Int) ≤ i := by omega
      clear hq hbs hi
      go_upto_region 7 with fail
      obtain ⟨m, hm⟩ : ∃ m : Nat, ln % 20 = (m : Int) := ⟨(ln % 20).toNat, by omega⟩
      have hm20 : m < 20 := by omega
      obtain ⟨cs, hmk⟩ := mk_choices m (by omega)
      have hb7 : Below wo.heap.size wo ((wo.alloc (.cells #[.int .u8 st, .int .u8 kd, .int .u8 ln, .slice sA L.length sc, .bool lost] 92)).alloc (.cells #[.int .i64 (st % 5 * 16), .int .i64 0, .int .i64 0, .int .i64 0, .int .i64 0, .int .i64 0, .slice none 0 0, .bool false, .slice none 0 0, .slice none 0 0, .int .i64 0, .slice none 0 0] 58)) := by go_grown
      have X7 := (Blk.new wo 92 #[.int .u8 st, .int .u8 kd, .int .u8 ln, .slice sA L.length sc, .bool lost]).alloc (.cells #[.int .i64 (st % 5 * 16), .int .i64 0, .int .i64 0, .int .i64 0, .int .i64 0, .int .i64 0, .slice none 0 0, .bool false, .slice none 0 0, .slice none 0 0, .int .i64 0, .slice none 0 0] 58)
      have F7 := Blk.new (wo.alloc (.cells #[.int .u8 st, .int .u8 kd, .int .u8 ln, .slice sA L.length sc, .bool lost] 92)) 58 #[.int .i64 (st % 5 * 16), .int .i64 0, .int .i64 0, .int .i64 0, .int .i64 0, .int .i64 0, .slice none 0 0, .bool false, .slice none 0 0, .slice none 0 0, .int .i64 0, .slice none 0 0]
      have hz7 : ((wo.alloc (.cells #[.int .u8 st, .int .u8 kd, .int .u8 ln, .slice sA L.length sc, .bool lost] 92)).alloc (.cells #[.int .i64 (st % 5 * 16), .int .i64 0, .int .i64 0, .int .i64 0, .int .i64 0, .int .i64 0, .slice none 0 0, .bool false, .slice none 0 0, .slice none 0 0, .int .i64 0, .slice none 0 0] 58)).heap.size = wo.heap.size + 2 := by simp
      simp only [World.size_alloc] at F7
      generalize (wo.alloc (.cells #[.int .u8 st, .int .u8 kd, .int .u8 ln, .slice sA L.length sc, .bool lost] 92)).alloc (.cells #[.int .i64 (st % 5 * 16), .int .i64 0, .int .i64 0, .int .i64 0, .int .i64 0, .int .i64 0, .slice none 0 0, .bool false, .slice none 0 0, .slice none 0 0, .int .i64 0, .slice none 0 0] 58) = W7 at *
      have x1 := X7.cell 1
      have x2 := X7.cell 2
      have x4 := X7.cell 4
      have y1 := F7.cell 1
      have y2 := F7.cell 2
      have y3 := F7.cell 3
      have y4 := F7.cell 4
      have y5 := F7.cell 5
      have y6 := F7.cell 6
      have y7 := F7.cell 7
      have y8 := F7.cell 8
      have y9 := F7.cell 9
      have y10 := F7.cell 10
      simp only [List.getElem?_toArray, List.getElem?_cons_zero, List.getElem?_cons_succ] at x1 x2 x4 y1 y2 y3 y4 y5 y6 y7 y8 y9 y10
      have F8 := F7.alloc (.cells cs 195)
      have v1 := F8.cell 1
      have v2 := F8.cell 2
      have v3 := F8.cell 3
      have v4 := F8.cell 4
      have v5 := F8.cell 5
      have v6 := F8.cell 6
      have v7 := F8.cell 7
      have v8 := F8.cell 8
      have v9 := F8.cell 9
      have v10 := F8.cell 10
      simp only [List.getElem?_toArray, List.getElem?_cons_zero, List.getElem?_cons_succ] at v1 v2 v3 v4 v5 v6 v7 v8 v9 v10
      have r1 := F8.frozen 1
      have r2 := F8.frozen 2
      have r3 := F8.frozen 3
      have r4 := F8.frozen 4
      have r5 := F8.frozen 5
      have r6 := F8.frozen 6
      have r7 := F8.frozen 7
      have r8 := F8.frozen 8
      have r9 := F8.frozen 9
      have r10 := F8.frozen 10
      have ne1 : ¬ wo.heap.size + 1 = W7.heap.size := by omega
      have ne2 : ¬ W7.heap.size = wo.heap.size + 1 := by omega
      have q1 := F7.frozen 1
      have q2 := F7.frozen 2
      have q3 := F7.frozen 3
      have q4 := F7.frozen 4
      have q5 := F7.frozen 5
      have q6 := F7.frozen 6
      have q7 := F7.frozen 7
      have q8 := F7.frozen 8
      have q9 := F7.frozen 9
      have q10 := F7.frozen 10
      have mk : ∀ w : World, (Instr.makeSlice 53 (.int .i64 (ln % 20)) (.int .i64 (ln % 20))).run Tryd.prog w = .ok (.slice (some ⟨w.heap.size, 0, none⟩) m m) (w.alloc (.cells cs 195)) := fun w => by rw [hm]; exact hmk w
      have HM := Lib.hid hm
      have HHB7 := Lib.hid hb7
      have HX7 := Lib.hid X7
      have HF7 := Lib.hid F7
      have HZ7 := Lib.hid hz7
      have HKD : Hid (I64 (kd % 6 - kd / 250) ∧ I64 (st % 5 * 16)) := Lib.hid (by unfold I64; omega)
      have t1 : IntKind.i64.wrap kd = kd := IntWalk.i64_in _ (by omega)
      have t2 : IntKind.i64.wrap ln = ln := IntWalk.i64_in _ (by omega)
      have t3 : kd.tmod 6 = kd % 6 := Int.tmod_eq_emod_of_nonneg a3
      have t4 : ln.tmod 20 = ln % 20 := Int.tmod_eq_emod_of_nonneg a5
      have t5 : kd.tdiv 250 = kd / 250 := Int.tdiv_eq_ediv_of_nonneg a3
      have t6 : IntKind.i64.wrap (kd / 250) = kd / 250 := IntWalk.i64_in _ (by omega)
      have t7 : IntKind.i64.wrap (kd % 6 - kd / 250) = kd % 6 - kd / 250 := IntWalk.i64_in _ (by omega)
      clear hm hmk hb7 X7 F7 F8 hz7 c0 c1 c2 c3 c4
      have HFI : Hid (FdI wo (set10 (W7.alloc (.cells cs 195)) (wo.heap.size + 1) (.int .i64 (kd % 6 - kd / 250)) (.int .i64 0) (.int .i64 0) (.int .i64 0) (.int .i64 0) (.slice none 0 0) (.bool (!lost)) (.slice (some ⟨W7.heap.size, 0, none⟩) m m) (.slice none 0 0) (.int .i64 0)) (W7.heap.size + 1) (st % 5 * 16) (kd % 6 - kd / 250) (⟨st, kd, ln, L, lost⟩, sA, sc) lost m ⟨W7.heap.size, 0, none⟩ (.slice none 0 0) []) := Lib.hid (by
        have e := HZ7.out
        refine ⟨below_set10 (HHB7.out.alloc HHB7.out.size _) (by omega) _ _ _ _ _ _ _ _ _ _, by rw [size_set10]; simp, by omega, blk_far10 (HX7.out.alloc _) (by omega) _ _ _ _ _ _ _ _ _ _, blk_set10 (HF7.out.alloc _) _ _ _ _ _ _ _ _ _ _, World.ownsRow_nil _ _ _ _, by simp⟩)
      have HN1 : Hid (wo.heap.size + 2 ≤ W7.heap.size + 1) := Lib.hid (by have := HZ7.out; omega)
      obtain ⟨N1, hN1⟩ : ∃ N1, N1 = W7.heap.size + 1 := ⟨_, rfl⟩
      rw [← hN1] at HFI HN1
      unfold set10 at HFI
      go_region_held3 (fun w' => w'.cell? ⟨wo.heap.size, 1, none⟩ = some (.int .u8 kd) ∧ w'.cell? ⟨wo.heap.size, 2, none⟩ = some (.int .u8 ln) ∧ w'.cell? ⟨wo.heap.size, 4, none⟩ = some (.bool lost)) (go_keep) (fail)
      clear x1 x2 x4 y1 y2 y3 y4 y5 y6 y7 y8 y9 y10 v1 v2 v3 v4 v5 v6 v7 v8 v9 v10 q1 q2 q3 q4 q5 q6 q7 q8 q9 q10 r1 r2 r3 r4 r5 r6 r7 r8 r9 r10 ne1 ne2 mk t1 t2 t3 t4 t5 t6 t7 HX7 HF7 HHB7 HM HZ7
      obtain ⟨mA, hmA⟩ : ∃ mA : Addr, mA = ⟨W7.heap.size, 0, none⟩ := ⟨_, rfl⟩
      rw [← hmA] at HFI ⊢
      generalize (((((((((((W7.alloc (.cells cs 195)).setCell ⟨wo.heap.size + 1, 1, none⟩ (.int .i64 (kd % 6 - kd / 250))).setCell ⟨wo.heap.size + 1, 2, none⟩ (.int .i64 0)).setCell ⟨wo.heap.size + 1, 3, none⟩ (.int .i64 0)).setCell ⟨wo.heap.size + 1, 4, none⟩ (.int .i64 0)).setCell ⟨wo.heap.size + 1, 5, none⟩ (.int .i64 0)).setCell ⟨wo.heap.size + 1, 6, none⟩ (.slice none 0 0)).setCell ⟨wo.heap.size + 1, 7, none⟩ (.bool (!lost))).setCell ⟨wo.heap.size + 1, 8, none⟩ (.slice (some mA) m m)).setCell ⟨wo.heap.size + 1, 9, none⟩ (.slice none 0 0)).setCell ⟨wo.heap.size + 1, 10, none⟩ (.int .i64 0)).drew = W10 at *
      clear hmA hN1
      have x3 := HFI.out.fx.cell 3
      simp only [FIn.cells, List.getElem?_toArray, List.getElem?_cons_zero, List.getElem?_cons_succ] at x3
      obtain ⟨Bs, bc, eb, b1, b2, hbx, hbr⟩ := HBS.out
      injection eb with eb1 eb2 eb3
      subst eb1 eb3
      have HBX := Lib.hid hbx
      have HBR := Lib.hid hbr
      unfold maxLen at b2
      clear hbx hbr HBS eb2
      go_wp2_with fail
      go_loopw [47] (fun jv wi => ∃ (j : Nat) (sv : Value) (ss : List Int), j ≤ L.length ∧ jv = .int .i64 j ∧ Hid (ss.length = min j 4) ∧ Hid (FdI wo wi N1 (st % 5 * 16) (kd % 6 - kd / 250) (⟨st, kd, ln, L, lost⟩, sA, sc) lost m mA sv ss)) (fun jv _ => L.length - (intOf jv).toNat)
      case atStart => exact ⟨0, _, [], by omega, rfl, Lib.hid (by simp), HFI⟩
      case round =>
        clear HFI x3
        obtain ⟨j, sv, ss, hj, rfl, HSL, HFI⟩ := hrel
        obtain ⟨As, ca, hsv, -, -, -⟩ := owns_rd HFI.out.own.1
        subst hsv
        by_cases hjl : j < L.length
        · have lj : (j : Int) < L.length := by omega
          obtain ⟨x, hx⟩ : ∃ x, L[j]? = some x := ⟨_, List.getElem?_eq_getElem hjl⟩
          obtain ⟨x0, x255⟩ := HBX.out x (List.mem_of_getElem? hx)
          obtain ⟨bb, oo, rfl, hbb, hcx⟩ := (HBR.out.keep HFI.out.bl).at_ (u := .int .u8 x) (by rw [List.getElem?_map, hx]; rfl)
          clear hx
          by_cases hj4 : j < 4
          · have l4 : (j : Int) < 4 := by omega
            have r11 := HFI.out.ff.cell 11
            simp only [List.getElem?_toArray, List.getElem?_cons_zero, List.getElem?_cons_succ] at r11
            have HOW : Hid (wr.ownsRow N1 3 1 (.slice As ss.length ca) ss.length (ss.map (Value.int .i64))) := Lib.hid HFI.out.own.1
            have HN := Lib.hid (one_at wr (.int .i64 (x % 5 - x / 250)) 3)
            have HO1 : Hid (∀ u ∈ ([.int .i64 (x % 5 - x / 250)] : List Value), u.oneCell' = true) := Lib.hid (by intro u hu; simp at hu; subst hu; rfl)
            have HM1 : Hid (ss.length + 1 ≤ maxLen) := by refine Lib.hid ?_; have := HSL.out; unfold maxLen; omega
            have HM2 : Hid ((ss.length + 1) * 8 ≤ 140737488355328) := by refine Lib.hid ?_; have := HSL.out; omega
            have HM3 : Hid (N1 ≤ (wr.alloc (.cells #[.int .i64 (x % 5 - x / 250)] 3)).heap.size) := by refine Lib.hid ?_; have := HFI.out.hi; simp; omega
            have HXI : Hid (I64 (x % 5 - x / 250)) := Lib.hid (by unfold I64; omega)
            go_wp2_with (at_builtin; refine wpList_append_own_at _ rfl _ _ 33 rfl N1 3 iI (.int .i64 0) 1 8 Tryd.underlying33 hiI hzI0 hzI1 hzI2 rfl (by decide) _ _ _ rfl (HOW.out.alloc _) ⟨wr.heap.size, 0, none⟩ 1 1 [.int .i64 (x % 5 - x / 250)] rfl rfl HN.out HO1.out HM1.out HM2.out HM3.out ?_)
            intro v4 w4 hown hg _ hat
            obtain ⟨A4, c4, hv4, -, -, -⟩ := owns_rd hown
            subst hv4
            have hps := HFI.out.push (sv' := .slice A4 (ss.length + 1) c4) HXI.out hown hg
            have f11 := hps.2.frozen 11
            have c11 := hps.2.cell 11
            simp only [List.getElem?_toArray, List.getElem?_cons_zero, List.getElem?_cons_succ] at c11
            have HPS := Lib.hid hps.1
            have HSL2 : Hid ((ss ++ [x % 5 - x / 250]).length = min (j + 1) 4) := Lib.hid (by rw [List.length_append, HSL.out]; simp; omega)
            clear hown hg hat hps
            go_wp2_with fail
            go_roundw
            case rel => exact ⟨j + 1, _, _, by omega, by go_num, HSL2, HPS⟩
            case measure => simp [intOf]; omega
          · have l4 : ¬ (j : Int) < 4 := by omega
            have HSL2 : Hid (ss.length = min (j + 1) 4) := Lib.hid (by rw [HSL.out]; omega)
            clear hj4
            go_wp2_with fail
            go_roundw
            case rel => exact ⟨j + 1, _, _, by omega, by go_num, HSL2, HFI⟩
            case measure => simp [intOf]; omega
        · have lj : ¬ (j : Int) < L.length := by omega
          have c0 := HFI.out.ff.cell 0
          have c1 := HFI.out.ff.cell 1
          have c2 := HFI.out.ff.cell 2
          have c3 := HFI.out.ff.cell 3
          have c4 := HFI.out.ff.cell 4
          have c5 := HFI.out.ff.cell 5
          have c6 := HFI.out.ff.cell 6
          have c7 := HFI.out.ff.cell 7
          have c8 := HFI.out.ff.cell 8
          have c9 := HFI.out.ff.cell 9
          have c10 := HFI.out.ff.cell 10
          have c11 := HFI.out.ff.cell 11
          simp only [List.getElem?_toArray, List.getElem?_cons_zero, List.getElem?_cons_succ] at c0 c1 c2 c3 c4 c5 c6 c7 c8 c9 c10 c11
          have HOW : Hid (wr.ownsRow w.heap.size 58 12 (.slice Ao ps.length co) ps.length (ps.flatMap Fnd.cells)) := Lib.hid (HFS.out.keep HFI.out.bl).own.1
          obtain ⟨fc, hfc⟩ : ∃ fc : List Value, fc = [.int .i64 (st % 5 * 16), .int .i64 (kd % 6 - kd / 250), .int .i64 0, .int .i64 0, .int .i64 0, .int .i64 0, .slice none 0 0, .bool (!lost), .slice (some mA) m m, .slice none 0 0, .int .i64 0, .slice As ss.length ca] := ⟨_, rfl⟩
          have HN := Lib.hid (cells_at wr 58 [.int .i64 (st % 5 * 16), .int .i64 (kd % 6 - kd / 250), .int .i64 0, .int .i64 0, .int .i64 0, .int .i64 0, .slice none 0 0, .bool (!lost), .slice (some mA) m m, .slice none 0 0, .int .i64 0, .slice As ss.length ca] rfl)
          have HO1 : Hid (∀ u ∈ ([.int .i64 (st % 5 * 16), .int .i64 (kd % 6 - kd / 250), .int .i64 0, .int .i64 0, .int .i64 0, .int .i64 0, .slice none 0 0, .bool (!lost), .slice (some mA) m m, .slice none 0 0, .int .i64 0, .slice As ss.length ca] : List Value), u.oneCell' = true) := Lib.hid (by intro u hu; simp at hu; rcases hu with rfl | rfl | rfl | rfl | rfl | rfl | rfl | rfl | rfl <;> rfl)
          have HM1 : Hid (ps.length + 1 ≤ maxLen) := by refine Lib.hid ?_; have := HPL.out; unfold maxLen; omega
          have HM2 : Hid ((ps.length + 1) * 160 ≤ 140737488355328) := by refine Lib.hid ?_; have := HPL.out; omega
          have HM3 : Hid (w.heap.size ≤ (wr.alloc (.cells #[.int .i64 (st % 5 * 16), .int .i64 (kd % 6 - kd / 250), .int .i64 0, .int .i64 0, .int .i64 0, .int .i64 0, .slice none 0 0, .bool (!lost), .slice (some mA) m m, .slice none 0 0, .int .i64 0, .slice As ss.length ca] 58)).heap.size) := by refine Lib.hid ?_; have h1 := HFI.out.bl.size; have h2 := HFS.out.bl.size; simp; omega
          go_wp2_with (at_builtin; refine wpList_append_own_at _ rfl _ _ 45 rfl w.heap.size 58 iF zF 12 160 Tryd.underlying45 hiF hzF0 hzF1 hzF2 hzF3 (by decide) _ _ _ rfl (HOW.out.alloc _) ⟨wr.heap.size, 0, none⟩ 1 1 [.int .i64 (st % 5 * 16), .int .i64 (kd % 6 - kd / 250), .int .i64 0, .int .i64 0, .int .i64 0, .int .i64 0, .slice none 0 0, .bool (!lost), .slice (some mA) m m, .slice none 0 0, .int .i64 0, .slice As ss.length ca] rfl rfl HN.out HO1.out HM1.out HM2.out HM3.out ?_)
          intro v4 w4 hown hg _ hat
          have HFS4 := Lib.hid (HFS.out.push HFI.out HKD.out (by unfold maxLen; omega) (by have := HSL.out; omega) rfl hown hg (by rw [World.size_alloc]; exact hat))
          clear hown hg hat
          go_wp2_with fail
          go_roundw
          case rel => exact ⟨i + 1, _, by omega, by omega, by go_num, Lib.hid (by rw [List.length_append, HPL.out]; rfl), HFS4⟩
          case measure => simp [intOf]; omega
    · by_cases hil : i < qs.length
      · obtain ⟨q, hq⟩ : ∃ q, qs[i]? = some q := ⟨_, List.getElem?_eq_getElem hil⟩
        obtain ⟨b, off, rfl, hbl, c0, c1, c2, c3, c4⟩ := FIns.at_ (HR.out.keep HFS.out.bl) hq
        obtain ⟨⟨st, kd, ln, L, lost⟩, sA, sc⟩ := q
        simp only at c0 c1 c2 c3 c4
        have li : (i : Int) < qs.length := by omega
        have l30 : (30 : Int) ≤ i := by omega
        clear hq hgo
        go_wp2_with fail
        go_ret
        exact ⟨_, ps, rfl, HFS.out.own.keep (by go_grown), by have := HPL.out; omega, HFS.out.bl.trans (Below.mono (by go_grown) HFS.out.bl.size)⟩
      · have li : ¬ (i : Int) < qs.length := by omega
        clear hgo
        go_wp2_with fail
        go_ret
        exact ⟨_, ps, rfl, HFS.out.own, by have := HPL.out; omega, HFS.out.bl⟩
end Go.Proofs.YtccpelfnkjckiaaDoor
