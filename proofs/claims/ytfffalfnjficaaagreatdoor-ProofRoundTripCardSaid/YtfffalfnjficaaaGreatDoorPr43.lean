/-
  WALK: interleaveref31.Greatest at constraints that have a solution.
-/
import Derived.Test.YtfffalfnjficaaaGreatDoorPr31
import Derived.Test.YtfffalfnjficaaaGreatDoorPr42
namespace Go.Proofs.YtfffalfnjficaaaGreatDoor
open Go.RowKit

/-- The row of Greatest. -/
structure GS (w wr : World) (gx : Nat) (xs : List Int) : Prop where
  x : Blk wr gx 3 (rowI xs)
  lx : w.heap.size ≤ gx
  bl : Below w.heap.size w wr
section
variable {w wr w' : World} {gx : Nat} {xs : List Int}
theorem GS.keep (h : GS w wr gx xs) (hb : Below wr.heap.size wr w') : GS w w' gx xs := ⟨h.x.keep hb, h.lx, h.bl.trans (hb.mono h.bl.size)⟩
theorem GS.setX (h : GS w wr gx xs) (k : Nat) (a : Int) : GS w (wr.setCell ⟨gx, k, none⟩ (.int .i64 a)) gx (xs.set k a) :=
  ⟨h.x.setI k a, h.lx, h.bl.grown (grownBy_set0 _ _ _ _) h.bl.size fun g e => by have := h.lx; injection e with e; omega⟩
theorem GS.drewN (h : GS w wr gx xs) (n : Nat) : GS w (wr.drewN n) gx xs := ⟨h.x.drewN n, h.lx, bdrew h.bl n⟩
end

/-- What Greatest returns: a solution without positive values. -/
def GrRet (w : World) (n : Nat) (l : List Diff) (e : Ending) (w' : World) : Prop :=
  ∃ g xs, e = .returned (.tuple #[.slice (some ⟨g, 0, none⟩) n n, .bool true]) ∧ Blk w' g 3 (rowI xs) ∧ w.heap.size ≤ g ∧ xs.length = n ∧ (∀ d ∈ l, gi xs d.x ≤ gi xs d.y + d.c) ∧ (∀ x ∈ xs, -2000000000000 ≤ x ∧ x ≤ 0) ∧ Below w.heap.size w w'

theorem bell_small {n : Nat} {M : Int} {l : List Diff} {r i : Nat} {xs bs : List Int} {last : Int} (h : Bell n M l r i xs bs last) (hM : M ≤ 1000000) (hl : l.length ≤ 1000) (hr : r ≤ 1000) (hi : i ≤ l.length) : ∀ x ∈ xs, -2000000000000 ≤ x ∧ x ≤ 0 := by
  intro x hx
  obtain ⟨k, hk, rfl⟩ := List.getElem_of_mem hx
  have hlen := h.lens.1
  have h1 := h.bound (k : Int) (by omega) (by omega)
  have e : gi xs (k : Int) = xs[k] := by unfold gi; rw [Int.toNat_natCast, List.getD_eq_getElem?_getD, List.getElem?_eq_getElem hk]; rfl
  rw [e] at h1
  have h3 : r * l.length ≤ 1000 * 1000 := Nat.mul_le_mul hr hl
  have h4 : M * ((r * l.length + i : Nat) : Int) ≤ 1000000 * 1001000 := Int.mul_le_mul hM (by omega) (by omega) (by omega)
  omega

set_option maxRecDepth 100000 in
set_option maxHeartbeats 2000000 in
theorem greatest_any (n : Nat) (v : Value) (l : List Diff) (w : World) (M : Int) (hv : Diffs w v l) (hE : EdgesIn n M l) (hn : n ≤ 999) (hl : l.length ≤ 1000) (hM0 : 0 ≤ M) (hM : M ≤ 1000000) (hsol : ∃ X : Int → Int, ∀ d ∈ l, X d.x ≤ X d.y + d.c) :
    Calls Tryz.prog 30 #[.int .i64 n, v] w (GrRet w n l) := by
  have HV := Lib.hid hv
  have HE := Lib.hid hE
  have HSOL := Lib.hid hsol
  obtain ⟨A, cp, rfl, h1, h2, h3, hr⟩ := hv
  unfold maxLen at h2
  clear h3 hr hE hsol
  have mk := mk_ints n (by omega)
  have HS1 : Hid (GS w (w.alloc (.cells (rowI (List.replicate n 0)) 3)) w.heap.size (List.replicate n 0)) := ⟨Blk.new _ _ _, Nat.le_refl _, (Below.refl _ _).alloc (Nat.le_refl _) _⟩
  go_enter Tryz.func30, Tryz.ntmps30
  go_wp2_with fail
  generalize w.alloc (.cells (rowI (List.replicate n 0)) 3) = W at *
  obtain ⟨gx, hgx⟩ : ∃ gx, gx = w.heap.size := ⟨_, rfl⟩
  rw [← hgx] at HS1 ⊢
  clear mk hgx
  go_loopw [7] (fun ro wr => ∃ (r : Nat) (a : Int) (xs bs : List Int), r ≤ n + 1 ∧ ro = .int .i64 r ∧ Round n M l r xs bs a ∧ GS w wr gx xs) (fun ro _ => n + 1 - (intOf ro).toNat)
  case atStart => exact ⟨0, -1, _, _, by omega, rfl, .inl ⟨rfl, Bell.start n M l⟩, HS1.out⟩
  case round =>
    obtain ⟨r, a, xs, bs, hr, rfl, hro, hs⟩ := hrel
    have HRO := Lib.hid hro
    have HS3 := Lib.hid hs
    clear hs hro HS1
    by_cases hrn : r ≤ n
    · go_wp2_with fail
      go_loopw [8, 20] (fun la i wr => ∃ (j : Nat) (a : Int) (xs bs : List Int), j ≤ l.length ∧ i = .int .i64 j ∧ la = .bool (decide (0 ≤ a)) ∧ -1 ≤ a ∧ Bell n M l r j xs bs a ∧ GS w wr gx xs) (fun _ i _ => l.length - (intOf i).toNat)
      case atStart => exact ⟨0, -1, _, _, by omega, rfl, rfl, by omega, HRO.out.go, HS3.out⟩
      case round =>
        obtain ⟨j, a, xs, bs, hj, rfl, rfl, ha1, hbe, hs⟩ := hrel
        have HBE := Lib.hid hbe
        have HS4 := Lib.hid hs
        clear hs hbe
        by_cases hjl : j < l.length
        · obtain ⟨d, hd⟩ : ∃ d, l[j]? = some d := ⟨_, List.getElem?_eq_getElem hjl⟩
          have HD := Lib.hid hd
          obtain ⟨A', c', hv', -, -, -, hrd⟩ := HV.out.keep HS4.out.bl
          injection hv' with e1 e2 e3
          subst e1 e3
          obtain ⟨b1, o1, rfl, hb1, hx1, hy1, hz1⟩ := hrd.diff hd
          obtain ⟨x0, x1, y0, y1, hne, c0, c1⟩ := HE.out j d hd
          obtain ⟨X, hX⟩ : ∃ X : Nat, d.x = X := ⟨d.x.toNat, by omega⟩
          obtain ⟨Y, hY⟩ : ∃ Y : Nat, d.y = Y := ⟨d.y.toNat, by omega⟩
          obtain ⟨lx, lb⟩ := HBE.out.lens
          obtain ⟨p, hp⟩ : ∃ p, xs[X]? = some p := ⟨_, List.getElem?_eq_getElem (by omega)⟩
          obtain ⟨q, hq⟩ : ∃ q, xs[Y]? = some q := ⟨_, List.getElem?_eq_getElem (by omega)⟩
          have HGX : Hid (gi xs d.x = p) := by
            refine Lib.hid ?_
            unfold gi; rw [hX, Int.toNat_natCast, List.getD_eq_getElem?_getD, hp]; rfl
          have HGY : Hid (gi xs d.y = q) := by
            refine Lib.hid ?_
            unfold gi; rw [hY, Int.toNat_natCast, List.getD_eq_getElem?_getD, hq]; rfl
          have HQ : Hid (-2000000000000 ≤ q ∧ q ≤ 0) := Lib.hid (bell_small HBE.out hM hl (by omega) hj q (List.mem_of_getElem? hq))
          have hq1 := HQ.out.1
          have hq2 := HQ.out.2
          have HX := Lib.hid hX
          have HY := Lib.hid hY
          rw [hX] at hx1
          rw [hY] at hy1
          have X1 : X < n := by omega
          have Y1 : Y < n := by omega
          clear hX hY lx lb hd hrd x0 x1 y0 y1 hne
          have sc := IntWalk.i64_in (q + d.c) (by omega)
          have B1 := Lib.hid (Blk.new wr 61 #[.int .i64 X, .int .i64 Y, .int .i64 d.c])
          have HS5 : Hid (GS w (wr.alloc (.cells #[.int .i64 X, .int .i64 Y, .int .i64 d.c] 61)) gx xs) := HS4.out.keep ((Below.refl _ _).alloc (Nat.le_refl _) _)
          by_cases hgt : q + d.c < p
          · have dg : (q + d.c < p) = True := by simp [hgt]
            go_upto_region 9 with fail
            generalize wr.alloc (.cells #[.int .i64 X, .int .i64 Y, .int .i64 d.c] 61) = W2 at *
            have r0 := B1.out.cell 0
            have r1 := B1.out.cell 1
            have r2 := B1.out.cell 2
            have e1 := HS5.out.x.cell X
            have e2 := HS5.out.x.cell Y
            rw [rowI_at hp] at e1
            rw [rowI_at hq] at e2
            simp only [List.getElem?_toArray, List.getElem?_cons_zero, List.getElem?_cons_succ] at r0 r1 r2
            clear hp hq
            go_quiet (fail)
            go_wp2_with fail
            have z1 := HS5.out.x.frozen X
            have HBY : Hid (Bell n M l r (j + 1) (xs.set X (q + d.c)) (bs.set X j) X) := by
              have h := HBE.out.yes HE.out HD.out (by rw [HGX.out, HGY.out]; exact hgt)
              rw [HGY.out, HX.out, Int.toNat_natCast] at h
              exact h
            go_region
            have HS6 := Lib.hid ((HS5.out.drewN (nq + 1)).setX X (q + d.c))
            clear r0 r1 r2 e1 e2 z1
            generalize (W2.drewN (nq + 1)).setCell ⟨gx, X, none⟩ (.int .i64 (q + d.c)) = W3 at *
            go_wp2_with fail
            go_roundw
            case rel => exact ⟨j + 1, X, _, _, by omega, by go_num, by simp, by omega, HBY.out, HS6.out⟩
            case measure => simp [intOf]; omega
          · have dg : (q + d.c < p) = False := by simp [hgt]
            have HBN : Hid (Bell n M l r (j + 1) xs bs a) := HBE.out.no hM0 HD.out (by rw [HGX.out, HGY.out]; omega)
            go_upto_region 9 with fail
            generalize wr.alloc (.cells #[.int .i64 X, .int .i64 Y, .int .i64 d.c] 61) = W2 at *
            have r0 := B1.out.cell 0
            have r1 := B1.out.cell 1
            have r2 := B1.out.cell 2
            have e1 := HS5.out.x.cell X
            have e2 := HS5.out.x.cell Y
            rw [rowI_at hp] at e1
            rw [rowI_at hq] at e2
            simp only [List.getElem?_toArray, List.getElem?_cons_zero, List.getElem?_cons_succ] at r0 r1 r2
            clear hp hq
            go_quiet (fail)
            go_wp2_with fail
            go_roundw
            case rel => exact ⟨j + 1, a, xs, bs, by omega, by go_num, rfl, ha1, HBN.out, HS5.out.drewN _⟩
            case measure => simp [intOf]; omega
        · have HBN : Hid (Bell n M l r l.length xs bs a) := by
            have h := HBE.out
            rw [show j = l.length by omega] at h
            exact h
          by_cases hz : 0 ≤ a
          · have dz : decide (0 ≤ a) = true := by simp [hz]
            go_wp2_with fail
            exact ⟨⟨r + 1, a, xs, bs, by omega, by go_num, .inr ⟨r, rfl, HBN.out, hz⟩, HS4.out⟩, by simp [intOf]; omega⟩
          · have HBZ : Hid (Bell n M l r l.length xs bs (-1)) := by
              have h := HBN.out
              rw [show a = -1 by omega] at h
              exact h
            have dz : decide (0 ≤ a) = false := by simp; omega
            go_wp2_with fail
            go_ret2
            refine ⟨gx, xs, rfl, HS4.out.x, HS4.out.lx, HBZ.out.lens.1, fun d hd => ?_, bell_small HBZ.out hM hl (by omega) (Nat.le_refl _), HS4.out.bl⟩
            obtain ⟨k, hk⟩ := List.getElem?_of_mem hd
            exact HBZ.out.solved hk
    · exfalso
      have HLA : Bell n M l n l.length xs bs a ∧ 0 ≤ a := by
        rcases HRO.out with ⟨h, _⟩ | ⟨q, h1, h2, h3⟩
        · omega
        · rw [show q = n by omega] at h2; exact ⟨h2, h3⟩
      obtain ⟨p, hp0, hway, d, d0, d1, d2, d3, d4⟩ := HLA.1.way HE.out HLA.2 (by omega)
      obtain ⟨hks, hcy⟩ := cyc_of_way hway d0 d2 d4
      obtain ⟨X, hX⟩ := HSOL.out
      obtain ⟨e, he, hno⟩ := cyc_no X hcy
      obtain ⟨k, hk, rfl⟩ := List.mem_map.1 he
      have hkl := hks k hk
      have hmem : l.getD k ⟨0, 0, 0⟩ ∈ l := by
        rw [List.getD_eq_getElem?_getD, List.getElem?_eq_getElem hkl]; exact List.getElem_mem hkl
      have := hX _ hmem
      omega
end Go.Proofs.YtfffalfnjficaaaGreatDoor
