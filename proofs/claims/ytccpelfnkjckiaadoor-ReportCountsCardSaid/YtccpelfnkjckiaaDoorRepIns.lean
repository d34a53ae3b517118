/-
  WALK: interleaveref39.insert.
-/
import Derived.Test.YtccpelfnkjckiaaDoorRepAsc
import Derived.Test.YtccpelfnkjckiaaDoorRepSt
namespace Go.Proofs.YtccpelfnkjckiaaDoor
open Go.RowKit

theorem insAsc_at {xs : List Int} {n : Int} {k : Nat} (hk : k ≤ xs.length) (h1 : ∀ j x, j < k → xs[j]? = some x → x < n) (h2 : ∀ x, xs[k]? = some x → n < x) : insAsc xs n = xs.take k ++ n :: xs.drop k := by
  have key : xs.takeWhile (fun x => decide (x < n)) = xs.take k ∧ xs.dropWhile (fun x => decide (x < n)) = xs.drop k := by
    induction xs generalizing k with
    | nil => simp
    | cons a t ih =>
      cases k with
      | zero =>
        have h3 : ¬ a < n := by have := h2 a rfl; omega
        simp [h3]
      | succ k =>
        have h0 : a < n := h1 0 a (by omega) rfl
        obtain ⟨e1, e2⟩ := ih (k := k) (by simpa using hk) (fun j x hj hx => h1 (j + 1) x (by omega) (by simpa using hx)) (fun x hx => h2 x (by simpa using hx))
        simp [h0, e1, e2]
  unfold insAsc
  simp only
  rw [key.1, key.2, if_neg]
  rw [List.head?_drop]
  intro e
  have := h2 n e
  omega
theorem insAsc_hit {xs : List Int} {n : Int} {k : Nat} (h1 : ∀ j x, j < k → xs[j]? = some x → x < n) (h2 : xs[k]? = some n) : insAsc xs n = xs := by
  have key : xs.dropWhile (fun x => decide (x < n)) = xs.drop k := by
    induction xs generalizing k with
    | nil => simp
    | cons a t ih =>
      cases k with
      | zero =>
        have h3 : a = n := by simpa using h2
        simp [h3]
      | succ k =>
        have h0 : a < n := h1 0 a (by omega) rfl
        have e2 := ih (k := k) (fun j x hj hx => h1 (j + 1) x (by omega) (by simpa using hx)) (by simpa using h2)
        simp [h0, e2]
  unfold insAsc
  simp only
  rw [key, List.head?_drop, if_pos h2]
theorem addr_zero (a : Addr) : a.add 0 = a := by unfold Addr.add; simp
theorem cut_toO (A : Option Addr) (n c k : Nat) (hk : k ≤ c) (w : World) : (Instr.slice 33 (.slice A n c) none (some (.int .i64 (k : Int))) none).run Tryd.prog w = .ok (.slice A k c) w := by
  rw [run_slice_h (P := Tryd.prog) (w := w) 33 _ n c (by kernel_rfl) .i64 (k : Int) (by omega) (by omega), show (sizeOf (Tryd.prog.elem 33)).run Tryd.prog w = .ok 1 w by kernel_rfl]
  cases A <;> simp only [Result.andThen, sliced, Int.toNat_natCast, Nat.zero_mul, Option.map_some, Option.map_none, addr_zero, Nat.sub_zero, ite_self]
theorem cut_fromO (A : Option Addr) (n c k : Nat) (hk : k ≤ n) (hn : n ≤ c) :
    ∃ dp, (∀ w, (Instr.slice 33 (.slice A n c) (some (.int .i64 (k : Int))) none none).run Tryd.prog w = .ok (.slice dp (n - k) (c - k)) w) ∧ (k < n → dp = A.map fun a => a.add k) := by
  refine ⟨if c = k then A else A.map fun a => a.add k, fun w => ?_, fun h => by rw [if_neg (by omega)]⟩
  rw [run_slice_l (P := Tryd.prog) (w := w) 33 _ n c (by kernel_rfl) .i64 (k : Int) (by omega) (by omega), show (sizeOf (Tryd.prog.elem 33)).run Tryd.prog w = .ok 1 w by kernel_rfl]
  simp only [Result.andThen, sliced, Int.toNat_natCast, Nat.mul_one]
theorem IntsO.rd {w : World} {P : Nat → Prop} {A : Option Addr} {n c : Nat} {xs : List Int} (h : IntsO w P (.slice A n c) xs) : Rd w A (xs.map (Value.int .i64)) := by
  obtain ⟨A', c', hv, h2, h3, h4, h5⟩ := h
  injection hv with e1 _ _
  subst e1
  intro h0
  obtain ⟨b, off, q1, q2, _, q4⟩ := h5 (by simpa using h0)
  exact ⟨b, off, q1, q2, q4⟩
theorem Rd.take {w : World} {A : Option Addr} {xs : List Value} (h : Rd w A xs) (k : Nat) : Rd w A (xs.take k) := by
  intro h0
  rw [List.length_take] at h0
  obtain ⟨b, off, hA, hb, hc⟩ := h (by omega)
  refine ⟨b, off, hA, hb, fun j u hu => hc j u ?_⟩
  have hj := (List.getElem?_eq_some_iff.1 hu).1
  rw [List.length_take] at hj
  rwa [List.getElem?_take_of_lt (by omega)] at hu
theorem ones_int (xs : List Int) : ∀ u ∈ xs.map (Value.int .i64), u.oneCell' = true := by
  intro u hu
  obtain ⟨x, _, rfl⟩ := List.mem_map.1 hu
  rfl

set_option maxRecDepth 100000 in
set_option maxHeartbeats 4000000 in
theorem rinsert_any (P : Nat → Prop) (lv : Value) (xs : List Int) (n : Int) (w : World) (h : IntsO w P lv xs) (hn : I64 n) (hl : xs.length ≤ 1000000) :
    Calls Tryd.prog 45 #[lv, .int .i64 n] w fun e w' => ∃ v, e = .returned v ∧ IntsO w' (fun b => P b ∨ w.heap.size ≤ b) v (insAsc xs n) ∧ Below w.heap.size w w' := by
  have HO := Lib.hid h
  have HI := Lib.hid hn
  obtain ⟨A, c, rfl, h2, h3, h4, -⟩ := h
  have HXX := Lib.hid h4
  have HRD : Hid (Rd w A (xs.map (Value.int .i64))) := Lib.hid HO.out.rd
  clear hn h4
  have hm := h3
  unfold maxLen at h3
  obtain ⟨iI, hiI, hzI0, hzI1, hzI2⟩ := info_parts info_int
  go_enter Tryd.func45, Tryd.ntmps45
  go_wp2_with fail
  go_loop [5] (fun i => ∃ k : Nat, k ≤ xs.length ∧ i = .int .i64 k ∧ Hid (∀ j x, j < k → xs[j]? = some x → x < n)) (fun i => xs.length - (intOf i).toNat)
  case atStart => exact ⟨0, by omega, rfl, Lib.hid fun j x hj => by omega⟩
  case round =>
    obtain ⟨k, hk, rfl, HLT⟩ := hrel
    obtain ⟨dp, hcf, hdp⟩ := cut_fromO A xs.length c k hk h2
    have hct := cut_toO A xs.length c k (by omega)
    have HDP := Lib.hid hdp
    have HTK : Hid ((xs.take k).length = k) := Lib.hid (by rw [List.length_take]; omega)
    have HLN : Hid (((xs.map (Value.int .i64)).take k).length = k * 1) := Lib.hid (by rw [List.length_take, List.length_map]; omega)
    have HLD : Hid (((xs.map (Value.int .i64)).drop k).length = (xs.length - k) * 1) := Lib.hid (by rw [List.length_drop, List.length_map]; omega)
    have HON1 : Hid (∀ u ∈ (xs.map (Value.int .i64)).take k, u.oneCell' = true) := Lib.hid fun u hu => ones_int xs u (List.mem_of_mem_take hu)
    have HON2 : Hid (∀ u ∈ (xs.map (Value.int .i64)).drop k, u.oneCell' = true) := Lib.hid fun u hu => ones_int xs u (List.mem_of_mem_drop hu)
    have HM1 : Hid (0 + k ≤ maxLen) := by refine Lib.hid ?_; unfold maxLen; omega
    have HM2 : Hid ((0 + k) * 8 ≤ 140737488355328) := by refine Lib.hid ?_; omega
    have HM3 : Hid (k + 1 ≤ maxLen) := by refine Lib.hid ?_; unfold maxLen; omega
    have HM4 : Hid ((k + 1) * 8 ≤ 140737488355328) := by refine Lib.hid ?_; omega
    have HM5 : Hid (k + 1 + (xs.length - k) ≤ maxLen) := by refine Lib.hid ?_; unfold maxLen; omega
    have HM6 : Hid ((k + 1 + (xs.length - k)) * 8 ≤ 140737488355328) := by refine Lib.hid ?_; omega
    clear hdp
    by_cases hlt : k < xs.length
    · obtain ⟨x, hx⟩ : ∃ x, xs[k]? = some x := ⟨_, List.getElem?_eq_getElem hlt⟩
      obtain ⟨b, off, rfl, hb, hc⟩ := HRD.out.int hx
      have HX := Lib.hid hx
      have li : (k : Int) < xs.length := by omega
      clear hx
      by_cases hxn : x < n
      · clear hct hcf
        go_wp2_with fail
        go_round
        case rel => exact ⟨k + 1, by omega, by go_num, Lib.hid fun j y hj hy => by
          by_cases e : j = k
          · subst e; rw [HX.out] at hy; injection hy with hy; omega
          · exact HLT.out j y (by omega) hy⟩
        case measure => simp [intOf]; omega
      · by_cases hxe : x = n
        · subst hxe
          have hlf : ¬ x < x := by omega
          have HE := Lib.hid (insAsc_hit HLT.out HX.out)
          clear hct hcf
          go_wp2_with fail
          go_ret
          exact ⟨_, rfl, by rw [HE.out]; exact HO.out.mono fun b _ hb => .inl hb, Below.refl _ _⟩
        · have hxb : (x == n) = false := by simpa using hxe
          have HE : Hid (insAsc xs n = xs.take k ++ n :: xs.drop k) := Lib.hid (insAsc_at hk HLT.out fun y hy => by rw [HX.out] at hy; injection hy with hy; omega)
          clear hxe
          go_wp2_with (at_builtin; refine wpList_append_rd _ rfl (.const (.slice none 0 0)) (.tmp 36) 33 rfl w.heap.size 3 iI (.int .i64 0) 1 8 Tryd.underlying33 hiI hzI0 hzI1 hzI2 rfl (by decide) (.slice none 0 0) 0 [] rfl (World.ownsRow_nil _ _ _ _) (some ⟨b, off, none⟩) k c ((xs.map (Value.int .i64)).take k) rfl HLN.out (HRD.out.take k) HON1.out HM1.out HM2.out (Nat.le_refl _) ?_)
          intro v1 w1 hown hg hat
          have HO1 := Lib.hid hown
          have HB1 : Hid (Below w.heap.size w w1) := Lib.hid ((Below.refl _ _).grown hg (Nat.le_refl _) fun k e => by cases e)
          obtain ⟨A1, c1, hv1, -, -, -⟩ := owns_rd hown
          subst hv1
          have HS1 : Hid (w.heap.size ≤ (w1.alloc (.cells #[.int .i64 n] 3)).heap.size) := Lib.hid (by have := HB1.out.size; simp; omega)
          have HNW := Lib.hid (cells_at w1 3 [.int .i64 n] rfl)
          have HON : Hid (∀ u ∈ ([.int .i64 n] : List Value), u.oneCell' = true) := Lib.hid (ones_int [n])
          clear hown hg hat hct
          go_wp2_with (at_builtin; refine wpList_append_own_at _ rfl (.tmp 38) (.tmp 40) 33 rfl w.heap.size 3 iI (.int .i64 0) 1 8 Tryd.underlying33 hiI hzI0 hzI1 hzI2 rfl (by decide) (.slice A1 k c1) k ((xs.map (Value.int .i64)).take k) rfl (HO1.out.alloc _) ⟨w1.heap.size, 0, none⟩ 1 1 [.int .i64 n] rfl rfl HNW.out HON.out HM3.out HM4.out HS1.out ?_)
          intro v2 w2 hown hg _ hat
          have HO2 := Lib.hid hown
          have HB2 : Hid (Below w.heap.size w w2) := Lib.hid ((HB1.out.alloc HB1.out.size _).grown hg HS1.out fun g e => (HO1.out.lt g e).1)
          obtain ⟨A2, c2, hv2, -, -, -⟩ := owns_rd hown
          subst hv2
          have HRD2 : Hid (Rd w2 dp ((xs.map (Value.int .i64)).drop k)) := Lib.hid (by
            intro h0
            rw [List.length_drop, List.length_map] at h0
            rw [HDP.out (by omega)]
            exact (HRD.out.keep HB2.out).drop k (by rw [List.length_drop, List.length_map]; omega))
          have HS2 := Lib.hid HB2.out.size
          clear hown hg hat
          go_wp2_with (at_builtin; refine wpList_append_rd _ rfl (.tmp 42) (.tmp 45) 33 rfl w.heap.size 3 iI (.int .i64 0) 1 8 Tryd.underlying33 hiI hzI0 hzI1 hzI2 rfl (by decide) (.slice A2 (k + 1) c2) (k + 1) ((xs.map (Value.int .i64)).take k ++ [.int .i64 n]) rfl HO2.out dp (xs.length - k) (c - k) ((xs.map (Value.int .i64)).drop k) rfl HLD.out HRD2.out HON2.out HM5.out HM6.out HS2.out ?_)
          intro v3 w3 hown hg hat
          have HO3 : Hid (Own w3 w.heap.size v3 (xs.take k ++ n :: xs.drop k)) := Lib.hid ⟨by
            have h5 : (xs.take k ++ n :: xs.drop k).length = k + 1 + (xs.length - k) := by rw [List.length_append, List.length_cons, List.length_take, List.length_drop]; omega
            rw [h5]
            simpa using hown, fun y hy => by
            rcases List.mem_append.1 hy with hy | hy
            · exact HXX.out y (List.mem_of_mem_take hy)
            · rcases List.mem_cons.1 hy with rfl | hy
              · exact HI.out
              · exact HXX.out y (List.mem_of_mem_drop hy)⟩
          have HB3 : Hid (Below w.heap.size w w3) := Lib.hid (HB2.out.grown hg HS2.out fun g e => (HO2.out.lt g e).1)
          clear hown hg hat
          go_wp2_with fail
          go_ret
          exact ⟨_, rfl, by rw [HE.out]; exact HO3.out.intsO fun b hb _ _ => .inr hb, HB3.out⟩
    · have hke : k = xs.length := by omega
      have HE : Hid (insAsc xs n = xs.take k ++ n :: xs.drop k) := Lib.hid (insAsc_at hk HLT.out fun y hy => by rw [List.getElem?_eq_none (by omega)] at hy; cases hy)
      have hld : decide (k < xs.length) = false := by simpa using hlt
      clear hke
      go_wp2_with (at_builtin; refine wpList_append_rd _ rfl (.const (.slice none 0 0)) (.tmp 36) 33 rfl w.heap.size 3 iI (.int .i64 0) 1 8 Tryd.underlying33 hiI hzI0 hzI1 hzI2 rfl (by decide) (.slice none 0 0) 0 [] rfl (World.ownsRow_nil _ _ _ _) A k c ((xs.map (Value.int .i64)).take k) rfl HLN.out (HRD.out.take k) HON1.out HM1.out HM2.out (Nat.le_refl _) ?_)
      intro v1 w1 hown hg hat
      have HO1 := Lib.hid hown
      have HB1 : Hid (Below w.heap.size w w1) := Lib.hid ((Below.refl _ _).grown hg (Nat.le_refl _) fun k e => by cases e)
      obtain ⟨A1, c1, hv1, -, -, -⟩ := owns_rd hown
      subst hv1
      have HS1 : Hid (w.heap.size ≤ (w1.alloc (.cells #[.int .i64 n] 3)).heap.size) := Lib.hid (by have := HB1.out.size; simp; omega)
      have HNW := Lib.hid (cells_at w1 3 [.int .i64 n] rfl)
      have HON : Hid (∀ u ∈ ([.int .i64 n] : List Value), u.oneCell' = true) := Lib.hid (ones_int [n])
      clear hown hg hat hct
      go_wp2_with (at_builtin; refine wpList_append_own_at _ rfl (.tmp 38) (.tmp 40) 33 rfl w.heap.size 3 iI (.int .i64 0) 1 8 Tryd.underlying33 hiI hzI0 hzI1 hzI2 rfl (by decide) (.slice A1 k c1) k ((xs.map (Value.int .i64)).take k) rfl (HO1.out.alloc _) ⟨w1.heap.size, 0, none⟩ 1 1 [.int .i64 n] rfl rfl HNW.out HON.out HM3.out HM4.out HS1.out ?_)
      intro v2 w2 hown hg _ hat
      have HO2 := Lib.hid hown
      have HB2 : Hid (Below w.heap.size w w2) := Lib.hid ((HB1.out.alloc HB1.out.size _).grown hg HS1.out fun g e => (HO1.out.lt g e).1)
      obtain ⟨A2, c2, hv2, -, -, -⟩ := owns_rd hown
      subst hv2
      have HRD2 : Hid (Rd w2 dp ((xs.map (Value.int .i64)).drop k)) := Lib.hid (by
        intro h0
        rw [List.length_drop, List.length_map] at h0
        rw [HDP.out (by omega)]
        exact (HRD.out.keep HB2.out).drop k (by rw [List.length_drop, List.length_map]; omega))
      have HS2 := Lib.hid HB2.out.size
      clear hown hg hat
      go_wp2_with (at_builtin; refine wpList_append_rd _ rfl (.tmp 42) (.tmp 45) 33 rfl w.heap.size 3 iI (.int .i64 0) 1 8 Tryd.underlying33 hiI hzI0 hzI1 hzI2 rfl (by decide) (.slice A2 (k + 1) c2) (k + 1) ((xs.map (Value.int .i64)).take k ++ [.int .i64 n]) rfl HO2.out dp (xs.length - k) (c - k) ((xs.map (Value.int .i64)).drop k) rfl HLD.out HRD2.out HON2.out HM5.out HM6.out HS2.out ?_)
      intro v3 w3 hown hg hat
      have HO3 : Hid (Own w3 w.heap.size v3 (xs.take k ++ n :: xs.drop k)) := Lib.hid ⟨by
        have h5 : (xs.take k ++ n :: xs.drop k).length = k + 1 + (xs.length - k) := by rw [List.length_append, List.length_cons, List.length_take, List.length_drop]; omega
        rw [h5]
        simpa using hown, fun y hy => by
        rcases List.mem_append.1 hy with hy | hy
        · exact HXX.out y (List.mem_of_mem_take hy)
        · rcases List.mem_cons.1 hy with rfl | hy
          · exact HI.out
          · exact HXX.out y (List.mem_of_mem_drop hy)⟩
      have HB3 : Hid (Below w.heap.size w w3) := Lib.hid (HB2.out.grown hg HS2.out fun g e => (HO2.out.lt g e).1)
      clear hown hg hat
      go_wp2_with fail
      go_ret
      exact ⟨_, rfl, by rw [HE.out]; exact HO3.out.intsO fun b hb _ _ => .inr hb, HB3.out⟩
end Go.Proofs.YtccpelfnkjckiaaDoor
