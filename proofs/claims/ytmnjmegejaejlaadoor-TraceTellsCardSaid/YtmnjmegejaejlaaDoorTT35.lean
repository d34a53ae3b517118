/-
  WALK: interleaveref06.SameWorld, at equal worlds.
-/
import Derived.Test.YtmnjmegejaejlaaDoorTT30
namespace Go.Proofs.YtmnjmegejaejlaaDoor
open Go.RowKit

set_option maxRecDepth 100000 in
set_option maxHeartbeats 16000000 in
theorem sworld_same (t : Trc) (A0 A1 A2 A3 A4 A5 B0 B1 B2 B3 B4 B5 : Option Addr) (c0 c1 c2 c3 c4 c5 d0 d1 d2 d3 d4 d5 : Nat) (w : World)
    (ha0 : t.cells.length ≤ c0 ∧ c0 ≤ maxLen ∧ Rd w A0 (t.cells.flatMap Cel.cells)) (hb0 : t.cells.length ≤ d0 ∧ d0 ≤ maxLen ∧ Rd w B0 (t.cells.flatMap Cel.cells))
    (ha1 : t.locks.length ≤ c1 ∧ c1 ≤ maxLen ∧ Rd w A1 (t.locks.flatMap Lck.cells)) (hb1 : t.locks.length ≤ d1 ∧ d1 ≤ maxLen ∧ Rd w B1 (t.locks.flatMap Lck.cells))
    (ha2 : t.conds.length ≤ c2 ∧ c2 ≤ maxLen ∧ Rd w A2 (t.conds.flatMap Cnd.cells)) (hb2 : t.conds.length ≤ d2 ∧ d2 ≤ maxLen ∧ Rd w B2 (t.conds.flatMap Cnd.cells))
    (ha3 : t.futs.length ≤ c3 ∧ c3 ≤ maxLen ∧ Rd w A3 (t.futs.flatMap strC)) (hb3 : t.futs.length ≤ d3 ∧ d3 ≤ maxLen ∧ Rd w B3 (t.futs.flatMap strC))
    (ha4 : t.thrs.length ≤ c4 ∧ c4 ≤ maxLen ∧ Rd w A4 (t.thrs.flatMap strC)) (hb4 : t.thrs.length ≤ d4 ∧ d4 ≤ maxLen ∧ Rd w B4 (t.thrs.flatMap strC))
    (ha5 : t.sites.length ≤ c5 ∧ c5 ≤ maxLen ∧ Rd w A5 (t.sites.flatMap Sit.cells)) (hb5 : t.sites.length ≤ d5 ∧ d5 ≤ maxLen ∧ Rd w B5 (t.sites.flatMap Sit.cells)) :
    Calls Tryd.prog 20 #[.agg #[.slice A0 t.cells.length c0, .slice A1 t.locks.length c1, .slice A2 t.conds.length c2, .slice A3 t.futs.length c3, .slice A4 t.thrs.length c4, .slice A5 t.sites.length c5], .agg #[.slice B0 t.cells.length d0, .slice B1 t.locks.length d1, .slice B2 t.conds.length d2, .slice B3 t.futs.length d3, .slice B4 t.thrs.length d4, .slice B5 t.sites.length d5]] w fun e w' => e = .returned (.bool true) ∧ Below w.heap.size w w' := by
  have hz1 := Blk.new w 28 #[.slice A0 t.cells.length c0, .slice A1 t.locks.length c1, .slice A2 t.conds.length c2, .slice A3 t.futs.length c3, .slice A4 t.thrs.length c4, .slice A5 t.sites.length c5]
  have hz2 := hz1.alloc (.cells #[.slice B0 t.cells.length d0, .slice B1 t.locks.length d1, .slice B2 t.conds.length d2, .slice B3 t.futs.length d3, .slice B4 t.thrs.length d4, .slice B5 t.sites.length d5] 28)
  have ht := Blk.new (w.alloc (.cells #[.slice A0 t.cells.length c0, .slice A1 t.locks.length c1, .slice A2 t.conds.length c2, .slice A3 t.futs.length c3, .slice A4 t.thrs.length c4, .slice A5 t.sites.length c5] 28)) 28 #[.slice B0 t.cells.length d0, .slice B1 t.locks.length d1, .slice B2 t.conds.length d2, .slice B3 t.futs.length d3, .slice B4 t.thrs.length d4, .slice B5 t.sites.length d5]
  rw [show ∀ (a : World) (o : Obj), (a.alloc o).heap.size = a.heap.size + 1 from fun a o => by simp] at ht
  have hbb : Below w.heap.size w ((w.alloc (.cells #[.slice A0 t.cells.length c0, .slice A1 t.locks.length c1, .slice A2 t.conds.length c2, .slice A3 t.futs.length c3, .slice A4 t.thrs.length c4, .slice A5 t.sites.length c5] 28)).alloc (.cells #[.slice B0 t.cells.length d0, .slice B1 t.locks.length d1, .slice B2 t.conds.length d2, .slice B3 t.futs.length d3, .slice B4 t.thrs.length d4, .slice B5 t.sites.length d5] 28)) := by go_grown
  have HBB := Lib.hid hbb
  have HZ := Lib.hid hz2
  have HT := Lib.hid ht
  obtain ⟨l0, m0, r0⟩ := ha0
  obtain ⟨l0', m0', r0'⟩ := hb0
  have HR0 := Lib.hid (r0.keep hbb)
  have HS0 := Lib.hid (r0'.keep hbb)
  obtain ⟨l1, m1, r1⟩ := ha1
  obtain ⟨l1', m1', r1'⟩ := hb1
  have HR1 := Lib.hid (r1.keep hbb)
  have HS1 := Lib.hid (r1'.keep hbb)
  obtain ⟨l2, m2, r2⟩ := ha2
  obtain ⟨l2', m2', r2'⟩ := hb2
  have HR2 := Lib.hid (r2.keep hbb)
  have HS2 := Lib.hid (r2'.keep hbb)
  obtain ⟨l3, m3, r3⟩ := ha3
  obtain ⟨l3', m3', r3'⟩ := hb3
  have HR3 := Lib.hid (r3.keep hbb)
  have HS3 := Lib.hid (r3'.keep hbb)
  obtain ⟨l4, m4, r4⟩ := ha4
  obtain ⟨l4', m4', r4'⟩ := hb4
  have HR4 := Lib.hid (r4.keep hbb)
  have HS4 := Lib.hid (r4'.keep hbb)
  obtain ⟨l5, m5, r5⟩ := ha5
  obtain ⟨l5', m5', r5'⟩ := hb5
  have HR5 := Lib.hid (r5.keep hbb)
  have HS5 := Lib.hid (r5'.keep hbb)
  unfold maxLen at m0 m0' m1 m1' m2 m2' m3 m3' m4 m4' m5 m5'
  clear hz1 hz2 ht hbb r0 r0' r1 r1' r2 r2' r3 r3' r4 r4' r5 r5'
  go_enter Tryd.func20, Tryd.ntmps20
  go_upto_region 1 with fail
  generalize (w.alloc (.cells #[.slice A0 t.cells.length c0, .slice A1 t.locks.length c1, .slice A2 t.conds.length c2, .slice A3 t.futs.length c3, .slice A4 t.thrs.length c4, .slice A5 t.sites.length c5] 28)).alloc (.cells #[.slice B0 t.cells.length d0, .slice B1 t.locks.length d1, .slice B2 t.conds.length d2, .slice B3 t.futs.length d3, .slice B4 t.thrs.length d4, .slice B5 t.sites.length d5] 28) = W at *
  have p0 := HZ.out.cell 0
  have q0 := HT.out.cell 0
  have p1 := HZ.out.cell 1
  have q1 := HT.out.cell 1
  have p2 := HZ.out.cell 2
  have q2 := HT.out.cell 2
  have p3 := HZ.out.cell 3
  have q3 := HT.out.cell 3
  have p4 := HZ.out.cell 4
  have q4 := HT.out.cell 4
  have p5 := HZ.out.cell 5
  have q5 := HT.out.cell 5
  simp only [List.getElem?_toArray, List.getElem?_cons_zero, List.getElem?_cons_succ] at p0 q0 p1 q1 p2 q2 p3 q3 p4 q4 p5 q5
  go_wp2_with fail
  go_loopw [5] (fun i wr => ∃ k n, k ≤ t.cells.length ∧ i = .int .i64 (k : Nat) ∧ wr = W.drewN n) (fun i _ => t.cells.length - (intOf i).toNat)
  case atStart => exact ⟨0, 0, by omega, rfl, rfl⟩
  case round =>
    obtain ⟨k, n, hk, rfl, rfl⟩ := hrel
    by_cases hlt : k < t.cells.length
    · obtain ⟨x, hx⟩ : ∃ x, t.cells[k]? = some x := ⟨_, List.getElem?_eq_getElem hlt⟩
      obtain ⟨b1, o1, rfl, hb1, g1⟩ := HR0.out.flat (g := Cel.cells) (m := 5) (fun _ => rfl) (by omega) hx
      obtain ⟨b2, o2, rfl, hb2, g2⟩ := HS0.out.flat (g := Cel.cells) (m := 5) (fun _ => rfl) (by omega) hx
      have y10 : W.cell? ⟨b1, o1 + k * 5, none⟩ = some (.string ⟨x.name.toArray⟩) := by exact g1 0 _ rfl
      have y11 : W.cell? ⟨b1, o1 + k * 5 + 1, none⟩ = some (.int .i64 x.index) := by exact g1 1 _ rfl
      have y12 : W.cell? ⟨b1, o1 + k * 5 + 2, none⟩ = some (.int .i64 x.size) := by exact g1 2 _ rfl
      have y13 : W.cell? ⟨b1, o1 + k * 5 + 3, none⟩ = some (.bool x.vol) := by exact g1 3 _ rfl
      have y14 : W.cell? ⟨b1, o1 + k * 5 + 4, none⟩ = some (.int .i64 x.init) := by exact g1 4 _ rfl
      have y20 : W.cell? ⟨b2, o2 + k * 5, none⟩ = some (.string ⟨x.name.toArray⟩) := by exact g2 0 _ rfl
      have y21 : W.cell? ⟨b2, o2 + k * 5 + 1, none⟩ = some (.int .i64 x.index) := by exact g2 1 _ rfl
      have y22 : W.cell? ⟨b2, o2 + k * 5 + 2, none⟩ = some (.int .i64 x.size) := by exact g2 2 _ rfl
      have y23 : W.cell? ⟨b2, o2 + k * 5 + 3, none⟩ = some (.bool x.vol) := by exact g2 3 _ rfl
      have y24 : W.cell? ⟨b2, o2 + k * 5 + 4, none⟩ = some (.int .i64 x.init) := by exact g2 4 _ rfl
      have lk : (k : Int) < (t.cells.length : Int) := by omega
      clear hx g1 g2
      go_wp2_with fail
      go_quiet (fail)
      go_wp2_with fail
      go_roundw
      case rel => exact ⟨k + 1, _, by omega, by go_num, rfl⟩
      case measure => simp [intOf]; omega
    · go_wp2_with fail
      go_loopw [6] (fun i wr => ∃ k n, k ≤ t.locks.length ∧ i = .int .i64 (k : Nat) ∧ wr = W.drewN n) (fun i _ => t.locks.length - (intOf i).toNat)
      case atStart => exact ⟨0, _, by omega, rfl, rfl⟩
      case round =>
        obtain ⟨k, n, hk, rfl, rfl⟩ := hrel
        by_cases hlt : k < t.locks.length
        · obtain ⟨x, hx⟩ : ∃ x, t.locks[k]? = some x := ⟨_, List.getElem?_eq_getElem hlt⟩
          obtain ⟨b1, o1, rfl, hb1, g1⟩ := HR1.out.flat (g := Lck.cells) (m := 2) (fun _ => rfl) (by omega) hx
          obtain ⟨b2, o2, rfl, hb2, g2⟩ := HS1.out.flat (g := Lck.cells) (m := 2) (fun _ => rfl) (by omega) hx
          have y10 : W.cell? ⟨b1, o1 + k * 2, none⟩ = some (.string ⟨x.name.toArray⟩) := by exact g1 0 _ rfl
          have y11 : W.cell? ⟨b1, o1 + k * 2 + 1, none⟩ = some (.bool x.rw) := by exact g1 1 _ rfl
          have y20 : W.cell? ⟨b2, o2 + k * 2, none⟩ = some (.string ⟨x.name.toArray⟩) := by exact g2 0 _ rfl
          have y21 : W.cell? ⟨b2, o2 + k * 2 + 1, none⟩ = some (.bool x.rw) := by exact g2 1 _ rfl
          have lk : (k : Int) < (t.locks.length : Int) := by omega
          clear hx g1 g2
          go_wp2_with fail
          go_quiet (fail)
          go_wp2_with fail
          go_roundw
          case rel => exact ⟨k + 1, _, by omega, by go_num, rfl⟩
          case measure => simp [intOf]; omega
        · go_wp2_with fail
          go_loopw [7] (fun i wr => ∃ k n, k ≤ t.conds.length ∧ i = .int .i64 (k : Nat) ∧ wr = W.drewN n) (fun i _ => t.conds.length - (intOf i).toNat)
          case atStart => exact ⟨0, _, by omega, rfl, rfl⟩
          case round =>
            obtain ⟨k, n, hk, rfl, rfl⟩ := hrel
            by_cases hlt : k < t.conds.length
            · obtain ⟨x, hx⟩ : ∃ x, t.conds[k]? = some x := ⟨_, List.getElem?_eq_getElem hlt⟩
              obtain ⟨b1, o1, rfl, hb1, g1⟩ := HR2.out.flat (g := Cnd.cells) (m := 2) (fun _ => rfl) (by omega) hx
              obtain ⟨b2, o2, rfl, hb2, g2⟩ := HS2.out.flat (g := Cnd.cells) (m := 2) (fun _ => rfl) (by omega) hx
              have y10 : W.cell? ⟨b1, o1 + k * 2, none⟩ = some (.string ⟨x.name.toArray⟩) := by exact g1 0 _ rfl
              have y11 : W.cell? ⟨b1, o1 + k * 2 + 1, none⟩ = some (.int .i64 x.mutex) := by exact g1 1 _ rfl
              have y20 : W.cell? ⟨b2, o2 + k * 2, none⟩ = some (.string ⟨x.name.toArray⟩) := by exact g2 0 _ rfl
              have y21 : W.cell? ⟨b2, o2 + k * 2 + 1, none⟩ = some (.int .i64 x.mutex) := by exact g2 1 _ rfl
              have lk : (k : Int) < (t.conds.length : Int) := by omega
              clear hx g1 g2
              go_wp2_with fail
              go_quiet (fail)
              go_wp2_with fail
              go_roundw
              case rel => exact ⟨k + 1, _, by omega, by go_num, rfl⟩
              case measure => simp [intOf]; omega
            · go_wp2_with fail
              go_loopw [8] (fun i wr => ∃ k n, k ≤ t.futs.length ∧ i = .int .i64 (k : Nat) ∧ wr = W.drewN n) (fun i _ => t.futs.length - (intOf i).toNat)
              case atStart => exact ⟨0, _, by omega, rfl, rfl⟩
              case round =>
                obtain ⟨k, n, hk, rfl, rfl⟩ := hrel
                by_cases hlt : k < t.futs.length
                · obtain ⟨x, hx⟩ : ∃ x, t.futs[k]? = some x := ⟨_, List.getElem?_eq_getElem hlt⟩
                  obtain ⟨b1, o1, rfl, hb1, g1⟩ := HR3.out.flat (g := strC) (m := 1) (fun _ => rfl) (by omega) hx
                  obtain ⟨b2, o2, rfl, hb2, g2⟩ := HS3.out.flat (g := strC) (m := 1) (fun _ => rfl) (by omega) hx
                  have y10 : W.cell? ⟨b1, o1 + k, none⟩ = some (.string ⟨x.toArray⟩) := by have := g1 0 _ rfl; rw [Nat.mul_one] at this; exact this
                  have y20 : W.cell? ⟨b2, o2 + k, none⟩ = some (.string ⟨x.toArray⟩) := by have := g2 0 _ rfl; rw [Nat.mul_one] at this; exact this
                  have lk : (k : Int) < (t.futs.length : Int) := by omega
                  clear hx g1 g2
                  go_wp2_with fail
                  go_quiet (fail)
                  go_wp2_with fail
                  go_roundw
                  case rel => exact ⟨k + 1, _, by omega, by go_num, rfl⟩
                  case measure => simp [intOf]; omega
                · go_wp2_with fail
                  go_loopw [9] (fun i wr => ∃ k n, k ≤ t.thrs.length ∧ i = .int .i64 (k : Nat) ∧ wr = W.drewN n) (fun i _ => t.thrs.length - (intOf i).toNat)
                  case atStart => exact ⟨0, _, by omega, rfl, rfl⟩
                  case round =>
                    obtain ⟨k, n, hk, rfl, rfl⟩ := hrel
                    by_cases hlt : k < t.thrs.length
                    · obtain ⟨x, hx⟩ : ∃ x, t.thrs[k]? = some x := ⟨_, List.getElem?_eq_getElem hlt⟩
                      obtain ⟨b1, o1, rfl, hb1, g1⟩ := HR4.out.flat (g := strC) (m := 1) (fun _ => rfl) (by omega) hx
                      obtain ⟨b2, o2, rfl, hb2, g2⟩ := HS4.out.flat (g := strC) (m := 1) (fun _ => rfl) (by omega) hx
                      have y10 : W.cell? ⟨b1, o1 + k, none⟩ = some (.string ⟨x.toArray⟩) := by have := g1 0 _ rfl; rw [Nat.mul_one] at this; exact this
                      have y20 : W.cell? ⟨b2, o2 + k, none⟩ = some (.string ⟨x.toArray⟩) := by have := g2 0 _ rfl; rw [Nat.mul_one] at this; exact this
                      have lk : (k : Int) < (t.thrs.length : Int) := by omega
                      clear hx g1 g2
                      go_wp2_with fail
                      go_quiet (fail)
                      go_wp2_with fail
                      go_roundw
                      case rel => exact ⟨k + 1, _, by omega, by go_num, rfl⟩
                      case measure => simp [intOf]; omega
                    · go_wp2_with fail
                      go_loopw [10] (fun i wr => ∃ k n, k ≤ t.sites.length ∧ i = .int .i64 (k : Nat) ∧ wr = W.drewN n) (fun i _ => t.sites.length - (intOf i).toNat)
                      case atStart => exact ⟨0, _, by omega, rfl, rfl⟩
                      case round =>
                        obtain ⟨k, n, hk, rfl, rfl⟩ := hrel
                        by_cases hlt : k < t.sites.length
                        · obtain ⟨x, hx⟩ : ∃ x, t.sites[k]? = some x := ⟨_, List.getElem?_eq_getElem hlt⟩
                          obtain ⟨b1, o1, rfl, hb1, g1⟩ := HR5.out.flat (g := Sit.cells) (m := 3) (fun _ => rfl) (by omega) hx
                          obtain ⟨b2, o2, rfl, hb2, g2⟩ := HS5.out.flat (g := Sit.cells) (m := 3) (fun _ => rfl) (by omega) hx
                          have y10 : W.cell? ⟨b1, o1 + k * 3, none⟩ = some (.int .i64 x.thread) := by exact g1 0 _ rfl
                          have y11 : W.cell? ⟨b1, o1 + k * 3 + 1, none⟩ = some (.int .i64 x.stmt) := by exact g1 1 _ rfl
                          have y12 : W.cell? ⟨b1, o1 + k * 3 + 2, none⟩ = some (.int .i64 x.line) := by exact g1 2 _ rfl
                          have y20 : W.cell? ⟨b2, o2 + k * 3, none⟩ = some (.int .i64 x.thread) := by exact g2 0 _ rfl
                          have y21 : W.cell? ⟨b2, o2 + k * 3 + 1, none⟩ = some (.int .i64 x.stmt) := by exact g2 1 _ rfl
                          have y22 : W.cell? ⟨b2, o2 + k * 3 + 2, none⟩ = some (.int .i64 x.line) := by exact g2 2 _ rfl
                          have lk : (k : Int) < (t.sites.length : Int) := by omega
                          clear hx g1 g2
                          go_wp2_with fail
                          go_quiet (fail)
                          go_wp2_with fail
                          go_roundw
                          case rel => exact ⟨k + 1, _, by omega, by go_num, rfl⟩
                          case measure => simp [intOf]; omega
                        · go_wp2_with fail
                          go_ret
                          exact ⟨rfl, bdrew HBB.out n⟩
end Go.Proofs.YtmnjmegejaejlaaDoor
