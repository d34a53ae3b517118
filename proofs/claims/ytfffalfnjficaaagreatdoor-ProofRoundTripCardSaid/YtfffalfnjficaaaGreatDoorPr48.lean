/-
  WALK: proof.bare.
-/
import Derived.Test.YtfffalfnjficaaaGreatDoorPr42
import Derived.Test.YtfffalfnjficaaaGreatDoorPr19
import Derived.StillTailTactics
import Derived.Laws.CopyOwn
namespace Go.Proofs.YtfffalfnjficaaaGreatDoor
open Go.RowKit

/-- What bare returns. -/
def BareRet (w : World) (s : Stp) (e : Ending) (w' : World) : Prop := ∃ A c, e = .returned (Stp.val s (.slice A s.lits.length c)) ∧ IntsO w' (fun b => w.heap.size ≤ b) (.slice A s.lits.length c) s.lits ∧ Below w.heap.size w w'

theorem splice_all (n : Nat) (xs : List Int) (h : xs.length = n) : splice ((List.replicate n (0 : Int)).map (Value.int .i64)) 0 (xs.map (Value.int .i64)) = xs.map (Value.int .i64) := by
  simp [splice, h]

theorem three0 (w0 : World) (A B C : Array Value) (ta tb tc : TypeId) : Blk (((w0.alloc (.cells A ta)).alloc (.cells B tb)).alloc (.cells C tc)) w0.heap.size ta A ∧ Blk (((w0.alloc (.cells A ta)).alloc (.cells B tb)).alloc (.cells C tc)) (w0.heap.size + 1) tb B ∧
    Blk (((w0.alloc (.cells A ta)).alloc (.cells B tb)).alloc (.cells C tc)) (w0.heap.size + 1 + 1) tc C ∧ Below w0.heap.size w0 (((w0.alloc (.cells A ta)).alloc (.cells B tb)).alloc (.cells C tc)) ∧ (((w0.alloc (.cells A ta)).alloc (.cells B tb)).alloc (.cells C tc)).heap.size = w0.heap.size + 1 + 1 + 1 := by
  have h1 := Blk.new (w0.alloc (.cells A ta)) tb B
  have h2 := Blk.new ((w0.alloc (.cells A ta)).alloc (.cells B tb)) tc C
  rw [show (w0.alloc (.cells A ta)).heap.size = w0.heap.size + 1 by simp] at h1
  rw [show ((w0.alloc (.cells A ta)).alloc (.cells B tb)).heap.size = w0.heap.size + 1 + 1 by simp] at h2
  exact ⟨((Blk.new w0 ta A).alloc _).alloc _, h1.alloc _, h2, (((Below.refl _ _).alloc (Nat.le_refl _) _).alloc (by simp) _).alloc (by simp; omega) _, by simp⟩

set_option maxRecDepth 100000 in
set_option maxHeartbeats 1000000 in
theorem bare_any (s : Stp) (lv pv : Value) (pl : List Int) (w : World) (hl : Ints w lv s.lits) (hp : Ints w pv pl) (hn : s.lits.length ≤ 1000000) (hb : s.kind = 1 ∨ s.kind = 2 ∨ (s.kind = 3 ∧ 0 ≤ s.p ∧ s.p < pl.length ∧ 0 ≤ s.q ∧ s.q < pl.length)) :
    Calls Tryz.prog 31 #[Stp.val s lv, pv] w (BareRet w (bareS s pl)) := by
  have HL := Lib.hid hl
  have HP := Lib.hid hp
  obtain ⟨A, c, rfl, l1, l2, l3, l4⟩ := hl
  obtain ⟨Ap, cp, rfl, p1, p2, p3, p4⟩ := hp
  have HR := Lib.hid l4
  have HI := Lib.hid l3
  have HPR := Lib.hid p4
  unfold maxLen at l2 p2
  clear l3 l4 p3 p4
  obtain ⟨kind, index, lits, p, q, var⟩ := s
  simp only at *
  unfold Stp.val
  simp only
  rcases hb with rfl | rfl | ⟨rfl, h1, h2, h3, h4⟩
  · have HB : Hid (bareS ⟨1, index, lits, p, q, var⟩ pl = ⟨1, index, [], 0, 0, 0⟩) := Lib.hid (by simp [bareS])
    rw [HB.out]
    go_enter Tryz.func31, Tryz.ntmps31
    go_wp2_with fail
    exact bodyPost_ret (v := .agg #[.int .i64 1, .int .i64 index, .slice none 0 0, .int .i64 0, .int .i64 0, .int .i64 0]) (by simp [results, Tryz.results31, go_sem]) rfl ⟨none, 0, rfl, intsO_nil _ _, by go_grown⟩
  · have HB : Hid (bareS ⟨2, index, lits, p, q, var⟩ pl = ⟨2, 0, lits, 0, 0, 0⟩) := Lib.hid (by simp [bareS])
    rw [HB.out]
    have mk := mk_ints lits.length hn
    go_enter Tryz.func31, Tryz.ntmps31
    go_upto_region 6 with fail
    obtain ⟨b0, b1, b2, hb3, hsz⟩ := three0 w #[.int .i64 2, .int .i64 index, .slice A lits.length c, .int .i64 p, .int .i64 q, .int .i64 var] #[.int .i64 0, .int .i64 0, .slice none 0 0, .int .i64 0, .int .i64 0, .int .i64 0] (rowI (List.replicate lits.length 0)) 53 53 3
    generalize ((w.alloc (.cells #[.int .i64 2, .int .i64 index, .slice A lits.length c, .int .i64 p, .int .i64 q, .int .i64 var] 53)).alloc (.cells #[.int .i64 0, .int .i64 0, .slice none 0 0, .int .i64 0, .int .i64 0, .int .i64 0] 53)).alloc (.cells (rowI (List.replicate lits.length 0)) 3) = W at *
    have HB0 := Lib.hid b0
    have HB1 := Lib.hid b1
    have HB2 := Lib.hid b2
    have HBW := Lib.hid hb3
    have HSZ := Lib.hid hsz
    have q2 := b0.cell 2
    simp only [List.getElem?_toArray, List.getElem?_cons_zero, List.getElem?_cons_succ] at q2
    clear b0 b1 b2 hb3 hsz mk
    have HZ0 : Hid (W.heap[w.heap.size + 1 + 1]? = some (.cells ((List.replicate lits.length (0 : Int)).map (Value.int .i64)).toArray 3 (0, 0))) := HB2.out
    have HK1 : Hid ((lits.map (Value.int .i64)).length = Nat.min lits.length lits.length) := Lib.hid (by simp)
    have HK2 : Hid (0 < (lits.map (Value.int .i64)).length → some (⟨w.heap.size + 1 + 1, 0, none⟩ : Addr) = some ⟨w.heap.size + 1 + 1, 0, none⟩ ∧ ∃ ad, A = some ad ∧ ∀ j v, (lits.map (Value.int .i64))[j]? = some v → W.cell? (ad.add j) = some v) := by
      refine Lib.hid fun h0 => ⟨rfl, ?_⟩
      obtain ⟨b, off, e1, _⟩ := HR.out (by simpa using h0)
      exact ⟨_, e1, (HR.out.keep HBW.out).adds _ e1⟩
    have HK3 : Hid (0 + (lits.map (Value.int .i64)).length ≤ ((List.replicate lits.length (0 : Int)).map (Value.int .i64)).length) := Lib.hid (by simp)
    have HON : Hid (∀ u ∈ lits.map (Value.int .i64), u.oneCell' = true) := Lib.hid (fun u hu => by obtain ⟨x, _, rfl⟩ := List.mem_map.1 hu; rfl)
    go_upto_region 7 with (refine wpList_copy_splice rfl (.tmp 21) (.tmp 23) 44 44 rfl 3 Tryz.underlying44 (by kernel_rfl) (some ⟨w.heap.size + 1 + 1, 0, none⟩) A lits.length lits.length lits.length c rfl rfl (w.heap.size + 1 + 1) 0 ((List.replicate lits.length (0 : Int)).map (Value.int .i64)) 3 HZ0.out (lits.map (Value.int .i64)) HK1.out HK2.out HK3.out HON.out (w.heap.size + 1 + 1) W (Below.refl _ _) (Nat.le_refl _) ?_; intro w4 hg4 hb4; have HB4 := Lib.hid hb4; clear hb4)
    rw [splice_all _ _ rfl] at hg4
    have C0 := HB0.out.below HB4.out (by omega)
    have C1 := HB1.out.below HB4.out (by omega)
    have HC2 : Hid (Blk w4 (w.heap.size + 1 + 1) 3 (rowI lits)) := hg4
    have HW4 : Hid (Below w.heap.size w w4) := Lib.hid (HBW.out.trans (HB4.out.mono (by omega)))
    have r0 := C0.cell 0
    have t0 := C1.cell 0
    have t1 := C1.cell 1
    have t2 := C1.cell 2
    have t3 := C1.cell 3
    have t4 := C1.cell 4
    have t5 := C1.cell 5
    have z0 := C1.frozen 0
    have z1 := C1.frozen 1
    have z2 := C1.frozen 2
    have z3 := C1.frozen 3
    have z4 := C1.frozen 4
    have z5 := C1.frozen 5
    simp only [List.getElem?_toArray, List.getElem?_cons_zero, List.getElem?_cons_succ] at r0 t0 t1 t2 t3 t4 t5
    clear q2 HK1 HK2 HK3 HON HZ0 hg4 C0 C1
    go_wp2_with fail
    have hset : w4.grownBy ((((((w4.setCell ⟨w.heap.size + 1, 0, none⟩ (.int .i64 2)).setCell ⟨w.heap.size + 1, 1, none⟩ (.int .i64 0)).setCell ⟨w.heap.size + 1, 2, none⟩ (.slice (some ⟨w.heap.size + 1 + 1, 0, none⟩) lits.length lits.length)).setCell ⟨w.heap.size + 1, 3, none⟩ (.int .i64 0)).setCell ⟨w.heap.size + 1, 4, none⟩ (.int .i64 0)).setCell ⟨w.heap.size + 1, 5, none⟩ (.int .i64 0)) (some (w.heap.size + 1)) := grownBy_trans (grownBy_trans (grownBy_trans (grownBy_trans (grownBy_trans (grownBy_set0 _ _ _ _) (grownBy_set0 _ _ _ _)) (grownBy_set0 _ _ _ _)) (grownBy_set0 _ _ _ _)) (grownBy_set0 _ _ _ _)) (grownBy_set0 _ _ _ _)
    have hC := HC2.out.grown hset (by simp)
    have hI := (Blk.ints hC HI.out (by unfold maxLen; omega))
    refine bodyPost_ret (v := .agg #[.int .i64 2, .int .i64 0, .slice (some ⟨w.heap.size + 1 + 1, 0, none⟩) lits.length lits.length, .int .i64 0, .int .i64 0, .int .i64 0]) (by simp [results, Tryz.results31, go_sem, t0, t1, t2, t3, t4, t5]) rfl ⟨_, _, rfl, ?_, HW4.out.grown hset HW4.out.size fun g e => by injection e with e; omega⟩
    exact ⟨_, _, rfl, Nat.le_refl _, by unfold maxLen; omega, HI.out, fun h0 => ⟨w.heap.size + 1 + 1, 0, rfl, hC.lt, by omega, fun j u hu => by rw [Nat.zero_add, hC.cell j]; simpa [rowI] using hu⟩⟩
  · have HB : Hid (bareS ⟨3, index, lits, p, q, var⟩ pl = ⟨3, 0, [], gi pl p, gi pl q, var⟩) := Lib.hid (by simp [bareS])
    rw [HB.out]
    obtain ⟨P, rfl⟩ : ∃ P : Nat, p = P := ⟨p.toNat, by omega⟩
    obtain ⟨Q, rfl⟩ : ∃ Q : Nat, q = Q := ⟨q.toNat, by omega⟩
    have hP : P < pl.length := by omega
    have hQ : Q < pl.length := by omega
    obtain ⟨x, hx⟩ : ∃ x, pl[P]? = some x := ⟨_, List.getElem?_eq_getElem hP⟩
    obtain ⟨y, hy⟩ : ∃ y, pl[Q]? = some y := ⟨_, List.getElem?_eq_getElem hQ⟩
    have gx : gi pl (P : Int) = x := by unfold gi; rw [Int.toNat_natCast, List.getD_eq_getElem?_getD, hx]; rfl
    have gy : gi pl (Q : Int) = y := by unfold gi; rw [Int.toNat_natCast, List.getD_eq_getElem?_getD, hy]; rfl
    rw [gx, gy]
    clear gx gy
    obtain ⟨b1, o1, e1, hb1, hc1⟩ := HPR.out.int hx
    obtain ⟨b2, o2, e2, hb2, hc2⟩ := HPR.out.int hy
    subst e1
    injection e2 with e2
    injection e2 with e2 e3 _
    subst e2 e3
    clear hx hy
    go_enter Tryz.func31, Tryz.ntmps31
    go_upto_region 8 with fail
    obtain ⟨W, hW⟩ : ∃ W : World, W = (w.alloc (.cells #[.int .i64 3, .int .i64 index, .slice A lits.length c, .int .i64 (P : Int), .int .i64 (Q : Int), .int .i64 var] 53)).alloc (.cells #[.int .i64 0, .int .i64 0, .slice none 0 0, .int .i64 0, .int .i64 0, .int .i64 0] 53) := ⟨_, rfl⟩
    have hbw : Below w.heap.size w W := by rw [hW]; exact ((Below.refl _ _).alloc (Nat.le_refl _) _).alloc (by simp) _
    have B0 : Blk W w.heap.size 53 #[.int .i64 3, .int .i64 index, .slice A lits.length c, .int .i64 (P : Int), .int .i64 (Q : Int), .int .i64 var] := by rw [hW]; exact (Blk.new _ _ _).alloc _
    have B1 : Blk W (w.heap.size + 1) 53 #[.int .i64 0, .int .i64 0, .slice none 0 0, .int .i64 0, .int .i64 0, .int .i64 0] := by
      have h := Blk.new (w.alloc (.cells #[.int .i64 3, .int .i64 index, .slice A lits.length c, .int .i64 (P : Int), .int .i64 (Q : Int), .int .i64 var] 53)) 53 #[.int .i64 0, .int .i64 0, .slice none 0 0, .int .i64 0, .int .i64 0, .int .i64 0]
      rw [show (w.alloc (.cells #[.int .i64 3, .int .i64 index, .slice A lits.length c, .int .i64 (P : Int), .int .i64 (Q : Int), .int .i64 var] 53)).heap.size = w.heap.size + 1 by simp] at h
      rw [hW]; exact h
    rw [← hW]
    have k1 : W.cell? ⟨b1, o1 + P, none⟩ = some (.int .i64 x) := (hbw.cell (p := ⟨b1, o1 + P, none⟩) hb1).trans hc1
    have k2 : W.cell? ⟨b1, o1 + Q, none⟩ = some (.int .i64 y) := (hbw.cell (p := ⟨b1, o1 + Q, none⟩) hb1).trans hc2
    have r0 := B0.cell 0
    have r3 := B0.cell 3
    have r4 := B0.cell 4
    have r5 := B0.cell 5
    have t0 := B1.cell 0
    have t1 := B1.cell 1
    have t2 := B1.cell 2
    have t3 := B1.cell 3
    have t4 := B1.cell 4
    have t5 := B1.cell 5
    have z0 := B1.frozen 0
    have z1 := B1.frozen 1
    have z2 := B1.frozen 2
    have z3 := B1.frozen 3
    have z4 := B1.frozen 4
    have z5 := B1.frozen 5
    simp only [List.getElem?_toArray, List.getElem?_cons_zero, List.getElem?_cons_succ] at r0 r3 r4 r5 t0 t1 t2 t3 t4 t5
    have i1 : (0 : Int) ≤ (P : Int) := by omega
    have i2 : (P : Int) < (pl.length : Int) := by omega
    have i3 : (0 : Int) ≤ (Q : Int) := by omega
    have i4 : (Q : Int) < (pl.length : Int) := by omega
    have HW := Lib.hid hbw
    have HB1 := Lib.hid B1
    clear hW hbw B0 B1 hc1 hc2
    go_still_tail 15, (by kernel_rfl)
    change wpList _ _ _ _ _ W.drew
    go_wp2_with fail
    have hset : W.grownBy ((((((W.setCell ⟨w.heap.size + 1, 0, none⟩ (.int .i64 3)).setCell ⟨w.heap.size + 1, 1, none⟩ (.int .i64 0)).setCell ⟨w.heap.size + 1, 2, none⟩ (.slice none 0 0)).setCell ⟨w.heap.size + 1, 3, none⟩ (.int .i64 x)).setCell ⟨w.heap.size + 1, 4, none⟩ (.int .i64 y)).setCell ⟨w.heap.size + 1, 5, none⟩ (.int .i64 var)).drew (some (w.heap.size + 1)) := grownBy_trans (grownBy_trans (grownBy_trans (grownBy_trans (grownBy_trans (grownBy_trans (grownBy_set0 _ _ _ _) (grownBy_set0 _ _ _ _)) (grownBy_set0 _ _ _ _)) (grownBy_set0 _ _ _ _)) (grownBy_set0 _ _ _ _)) (grownBy_set0 _ _ _ _)) (grownBy_drew _ _)
    have B9 : Blk (((((((W.setCell ⟨w.heap.size + 1, 0, none⟩ (.int .i64 3)).setCell ⟨w.heap.size + 1, 1, none⟩ (.int .i64 0)).setCell ⟨w.heap.size + 1, 2, none⟩ (.slice none 0 0)).setCell ⟨w.heap.size + 1, 3, none⟩ (.int .i64 x)).setCell ⟨w.heap.size + 1, 4, none⟩ (.int .i64 y)).setCell ⟨w.heap.size + 1, 5, none⟩ (.int .i64 var)).drew) (w.heap.size + 1) 53 #[.int .i64 3, .int .i64 0, .slice none 0 0, .int .i64 x, .int .i64 y, .int .i64 var] := ((((((HB1.out.set_ 0 _).set_ 1 _).set_ 2 _).set_ 3 _).set_ 4 _).set_ 5 _).drew
    generalize ((((((W.setCell ⟨w.heap.size + 1, 0, none⟩ (.int .i64 3)).setCell ⟨w.heap.size + 1, 1, none⟩ (.int .i64 0)).setCell ⟨w.heap.size + 1, 2, none⟩ (.slice none 0 0)).setCell ⟨w.heap.size + 1, 3, none⟩ (.int .i64 x)).setCell ⟨w.heap.size + 1, 4, none⟩ (.int .i64 y)).setCell ⟨w.heap.size + 1, 5, none⟩ (.int .i64 var)).drew = W9 at *
    have u0 := B9.cell 0
    have u1 := B9.cell 1
    have u2 := B9.cell 2
    have u3 := B9.cell 3
    have u4 := B9.cell 4
    have u5 := B9.cell 5
    simp only [List.getElem?_toArray, List.getElem?_cons_zero, List.getElem?_cons_succ] at u0 u1 u2 u3 u4 u5
    exact bodyPost_ret (v := .agg #[.int .i64 3, .int .i64 0, .slice none 0 0, .int .i64 x, .int .i64 y, .int .i64 var]) (by simp [results, Tryz.results31, go_sem, u0, u1, u2, u3, u4, u5]) rfl ⟨none, 0, rfl, intsO_nil _ _, HW.out.grown hset HW.out.size fun g e => by injection e with e; omega⟩
end Go.Proofs.YtfffalfnjficaaaGreatDoor
