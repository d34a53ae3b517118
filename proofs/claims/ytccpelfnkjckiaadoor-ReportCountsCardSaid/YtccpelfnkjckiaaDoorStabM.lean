/-
  WALK: slices.symMergeCmpFunc at numbers.
-/
import Derived.Test.YtccpelfnkjckiaaDoorStabW
namespace Go.Proofs.YtccpelfnkjckiaaDoor
open Go.RowKit Go.Sort Go.Lib

section
variable {α : Type} [Inhabited α] {rk : α → Nat} {cf : α → α → Int} {w0 w : World} {blk off cap g : Nat} {cb : Array Value} {d0 d : Array α}

set_option maxRecDepth 100000 in
set_option maxHeartbeats 4000000 in
theorem sym_left (a m0 b : Nat) (hm0 : m0 = a + 1) (h : CmpOk cf rk) (eg : ∀ args w, (callFunc g args).run Tryd.prog w = .ok (.enter g args) w) (hcmp : CmpLays1 Tryd.prog g cb (encK rk) cf blk off d0.size w0)
    (R : Row1 (encK rk) w0 blk off d0) (hs : d0.size = d.size) (S : SW (encK rk) w0 blk off d w) (hab : a + 1 < b) (hb : b ≤ d.size) (hsz : d.size < 4611686018427387904)
    (hsr : SrtK cf rk (a + 1) b d) (hco : Coh cf rk a b d) :
    Calls Tryd.prog 70 #[.slice (some ⟨blk, off, none⟩) d.size cap, .int .i64 a, .int .i64 m0, .int .i64 b, .func (.func g) #[] cb] w (StRet rk w0 blk off a b d fun d' => SrtK cf rk a b d') := by
  have mixed : Tryd.prog.follows .mixedOrders = true := by kernel_rfl
  have S0 : Aside (SW (encK rk) w0 blk off d w) := S
  have HS := Lib.hid hs
  have HC : Aside (CmpLays1 Tryd.prog g cb (encK rk) cf blk off d0.size w0) := hcmp
  have HSR : Aside (SrtK cf rk (a + 1) b d) := hsr
  have HCO : Aside (Coh cf rk a b d) := hco
  have HOK : Aside (CmpOk cf rk) := h
  clear S hs hcmp hsr hco h
  have e1 : (m0 : Int) - a = 1 := by omega
  have HM0 : Hid (m0 = a + 1) := hm0
  clear hm0
  go_enter Tryd.func70, Tryd.ntmps70
  go_wp2
  go_loopg [10, 11] (b - a) (fun g1 vi vj wr => ∃ (i j : Nat), vi = .int .i64 i ∧ vj = .int .i64 j ∧ a + 1 ≤ i ∧ i ≤ j ∧ j ≤ b ∧ j - i ≤ g1 ∧ Aside (SW (encK rk) w0 blk off d wr) ∧ Hid (i ≤ a + 1 ∨ cf d[i - 1]! d[a]! < 0) ∧ Hid (b ≤ j ∨ 0 ≤ cf d[j]! d[a]!))
  case atStart => exact ⟨m0, b, rfl, rfl, by have := HM0.out; omega, by have := HM0.out; omega, by omega, by have := HM0.out; omega, S0, Lib.hid (.inl (by have := HM0.out; omega)), Lib.hid (.inl (Nat.le_refl _))⟩
  case round =>
    clear S0
    obtain ⟨i, j, rfl, rfl, hi, hij, hjb, hg1, S1, HI, HJ⟩ := hrel
    by_cases hlt : i < j
    · obtain ⟨m, hm⟩ : ∃ m, m = (i + j) / 2 := ⟨_, rfl⟩
      have em : ((i : Int) + j) / 2 = m := by omega
      have hm1 : i ≤ m := by omega
      have hm2 : m < j := by omega
      clear hm
      obtain ⟨x, hx⟩ : ∃ x, x = d[m]! := ⟨_, rfl⟩
      obtain ⟨y, hy⟩ : ∃ y, y = d[a]! := ⟨_, rfl⟩
      have l1 := S1.out.cl R HS.out.symm m (by omega)
      have l2 := S1.out.cl R HS.out.symm a (by omega)
      have hc := S1.out.cmp HC.out HS.out.symm x y
      rw [← hx] at l1
      rw [← hy] at l2
      unfold encK at l1 l2 hc
      have HXY : Hid (x = d[m]! ∧ y = d[a]!) := ⟨hx, hy⟩
      clear hx hy
      have b1 : (m : Int) < d.size := by omega
      have b2 : (a : Int) < d.size := by omega
      by_cases hv : cf x y < 0
      · have hd : decide (cf x y < 0) = true := decide_eq_true hv
        go_wp2_with fail
        go_quiet_grown (first | (go_at_fn g; refine Calls.grown_of (hc _ _)))
        have S2 : Aside (SW (encK rk) w0 blk off d (grow (wr.drewN nq) osq)) := S1.out.grown nq osq
        clear l1 l2 hc S1
        generalize grow (wr.drewN nq) osq = w2 at S2 ⊢
        clear nq osq
        have HV := Lib.hid hv
        clear hv
        go_wp2
        go_roundg (j - (m + 1))
        case measure => omega
        case rel => exact ⟨m + 1, j, by go_num, rfl, by omega, by omega, hjb, by omega, S2, Lib.hid (.inr (by rw [Nat.add_sub_cancel, ← HXY.out.1, ← HXY.out.2]; exact HV.out)), HJ⟩
      · have hd : decide (cf x y < 0) = false := decide_eq_false hv
        go_wp2_with fail
        go_quiet_grown (first | (go_at_fn g; refine Calls.grown_of (hc _ _)))
        have S2 : Aside (SW (encK rk) w0 blk off d (grow (wr.drewN nq) osq)) := S1.out.grown nq osq
        clear l1 l2 hc S1
        generalize grow (wr.drewN nq) osq = w2 at S2 ⊢
        clear nq osq
        have HV : Hid (0 ≤ cf x y) := Lib.hid (by omega)
        clear hv
        go_wp2
        go_roundg (m - i)
        case measure => omega
        case rel => exact ⟨i, m, rfl, rfl, hi, by omega, by omega, by omega, S2, HI, Lib.hid (.inr (by rw [← HXY.out.1, ← HXY.out.2]; exact HV.out))⟩
    · obtain rfl : i = j := by omega
      obtain ⟨ip, hip⟩ : ∃ ip, ip + 1 = i := ⟨i - 1, by omega⟩
      subst hip
      go_wp2_with fail
      go_loopg [13] (ip - a) (fun g2 vk wr2 => ∃ (k : Nat) (dk : Array α), vk = .int .i64 k ∧ a ≤ k ∧ k ≤ ip ∧ ip - k ≤ g2 ∧ Aside (SW (encK rk) w0 blk off dk wr2) ∧ Hid (dk.size = d.size) ∧ Hid (PermIn a (ip + 1) d dk) ∧ Hid (∀ j, dk[j]! = d[rotI a (a + 1) (k + 1) j]!))
      case atStart => exact ⟨a, d, rfl, by omega, by omega, by omega, S1, Lib.hid rfl, Lib.hid (permIn_refl _ _ _), Lib.hid fun j => by rw [rotI_id a (a + 1) j (by omega)]⟩
      case round =>
        clear S1
        obtain ⟨k, dk, rfl, hak, hki, hg2, S1, HZ, HP, HR⟩ := hrel
        have es : ((ip + 1 : Nat) : Int) - 1 = ip := by omega
        by_cases hlt : k < ip
        · obtain ⟨q, hq⟩ : ∃ q, q = k + 1 := ⟨_, rfl⟩
          have ez := HZ.out
          have hs := HS.out
          have S3 := S1.out.swapped R k q (by omega) (by omega)
          have ca := S1.out.c1 R (by omega) k (by omega)
          have cb' := S1.out.c1 R (by omega) q (by omega)
          have fa := S1.out.f1 R (by omega) k (by omega)
          have fb := S1.out.f1 R (by omega) q (by omega)
          obtain ⟨u, cc⟩ := S1.out.c2 R (by omega) k q (by omega) (by omega) (encK rk dk[q]!)
          unfold encK at S3 ca cb' cc
          obtain ⟨x, hx⟩ : ∃ x, x = rk dk[k]! := ⟨_, rfl⟩
          obtain ⟨y, hy⟩ : ∃ x, x = rk dk[q]! := ⟨_, rfl⟩
          rw [← hx] at S3 ca
          rw [← hy] at S3 cb' cc
          have HS3 : Aside _ := S3
          have HPQ : Hid (q = k + 1) := hq
          have e2 : ((k : Int) + 1).toNat = q := by omega
          have r2 : IntKind.i64.wrap ((k : Int) + 1) = (k : Int) + 1 := by rw [IntKind.wrap_i64]; omega
          have z2 : (0 : Int) ≤ (k : Int) + 1 := by omega
          have l1 : (k : Int) < (d.size : Int) := by omega
          have l2 : (k : Int) + 1 < (d.size : Int) := by omega
          have t1 : (k : Int) < ip := by omega
          clear S3 hx hy hq ez S1 hs
          go_wp2_with fail
          go_big_region
          clear ca cb' cc fa fb
          generalize ((wr.setCell ⟨blk, off + k, none⟩ (.int .i64 y)).setCell ⟨blk, off + q, none⟩ (.int .i64 x)).drew = w3 at HS3 ⊢
          clear e2 r2 z2 l1 l2
          go_wp2
          go_roundg (ip - (k + 1))
          case measure => omega
          case rel =>
            have hq := HPQ.out
            have ez := HZ.out
            refine ⟨k + 1, swp dk k q, by go_num, by omega, by omega, by omega, HS3, Lib.hid (by rw [size_swp]; exact ez), Lib.hid (permIn_trans _ _ _ _ _ HP.out (swp_permIn dk a (ip + 1) k q (by omega) (by omega) (by omega) (by omega) (by omega))), Lib.hid fun j => ?_⟩
            rw [hq]
            exact rot_up (i := ip + 1) (by omega) hak HR.out ez j (by omega)
        · obtain rfl : k = ip := by omega
          have t1 : ¬ (k : Int) < k := by omega
          go_wp2
          go_end0
          obtain ⟨q1, q2⟩ := one_left HOK.out hb hi hjb HSR.out HCO.out HI.out (by have := HJ.out; omega) HR.out HP.out
          exact ⟨rfl, dk, S1.out, q1, q2⟩

set_option maxRecDepth 100000 in
set_option maxHeartbeats 4000000 in
theorem sym_right (a m0 b : Nat) (hm0 : b = m0 + 1) (hm1 : a + 1 < m0) (h : CmpOk cf rk) (eg : ∀ args w, (callFunc g args).run Tryd.prog w = .ok (.enter g args) w) (hcmp : CmpLays1 Tryd.prog g cb (encK rk) cf blk off d0.size w0)
    (R : Row1 (encK rk) w0 blk off d0) (hs : d0.size = d.size) (S : SW (encK rk) w0 blk off d w) (hb : b ≤ d.size) (hsz : d.size < 4611686018427387904)
    (hsr : SrtK cf rk a m0 d) (hco : Coh cf rk a b d) :
    Calls Tryd.prog 70 #[.slice (some ⟨blk, off, none⟩) d.size cap, .int .i64 a, .int .i64 m0, .int .i64 b, .func (.func g) #[] cb] w (StRet rk w0 blk off a b d fun d' => SrtK cf rk a b d') := by
  have mixed : Tryd.prog.follows .mixedOrders = true := by kernel_rfl
  have S0 : Aside (SW (encK rk) w0 blk off d w) := S
  have HS := Lib.hid hs
  have HC : Aside (CmpLays1 Tryd.prog g cb (encK rk) cf blk off d0.size w0) := hcmp
  have HSR : Aside (SrtK cf rk a m0 d) := hsr
  have HCO : Aside (Coh cf rk a b d) := hco
  have HOK : Aside (CmpOk cf rk) := h
  clear S hs hcmp hsr hco h
  have e0 : ((m0 : Int) - a == 1) = false := by simp; omega
  have e1 : (b : Int) - m0 = 1 := by omega
  have HM0 : Hid (b = m0 + 1) := hm0
  clear hm0
  go_enter Tryd.func70, Tryd.ntmps70
  go_wp2
  go_loopg [14, 15] (b - a) (fun g1 vi vj wr => ∃ (i j : Nat), vi = .int .i64 i ∧ vj = .int .i64 j ∧ a ≤ i ∧ i ≤ j ∧ j ≤ m0 ∧ j - i ≤ g1 ∧ Aside (SW (encK rk) w0 blk off d wr) ∧ Hid (i ≤ a ∨ 0 ≤ cf d[m0]! d[i - 1]!) ∧ Hid (m0 ≤ j ∨ cf d[m0]! d[j]! < 0))
  case atStart => exact ⟨a, m0, rfl, rfl, by omega, by omega, by omega, by have := HM0.out; omega, S0, Lib.hid (.inl (Nat.le_refl _)), Lib.hid (.inl (Nat.le_refl _))⟩
  case round =>
    clear S0
    obtain ⟨i, j, rfl, rfl, hi, hij, hjb, hg1, S1, HI, HJ⟩ := hrel
    by_cases hlt : i < j
    · obtain ⟨m, hm⟩ : ∃ m, m = (i + j) / 2 := ⟨_, rfl⟩
      have em : ((i : Int) + j) / 2 = m := by omega
      have hm1 : i ≤ m := by omega
      have hm2 : m < j := by omega
      clear hm
      obtain ⟨x, hx⟩ : ∃ x, x = d[m0]! := ⟨_, rfl⟩
      obtain ⟨y, hy⟩ : ∃ y, y = d[m]! := ⟨_, rfl⟩
      have hm0 : m0 < d.size := by have := HM0.out; omega
      have l1 := S1.out.cl R HS.out.symm m0 (by omega)
      have l2 := S1.out.cl R HS.out.symm m (by omega)
      have hc := S1.out.cmp HC.out HS.out.symm x y
      rw [← hx] at l1
      rw [← hy] at l2
      unfold encK at l1 l2 hc
      have HXY : Hid (x = d[m0]! ∧ y = d[m]!) := ⟨hx, hy⟩
      clear hx hy
      have b1 : (m : Int) < d.size := by omega
      have b2 : (m0 : Int) < d.size := by omega
      by_cases hv : cf x y < 0
      · have hd : decide (cf x y < 0) = true := decide_eq_true hv
        go_wp2_with fail
        go_quiet_grown (first | (go_at_fn g; refine Calls.grown_of (hc _ _)))
        have S2 : Aside (SW (encK rk) w0 blk off d (grow (wr.drewN nq) osq)) := S1.out.grown nq osq
        clear l1 l2 hc S1
        generalize grow (wr.drewN nq) osq = w2 at S2 ⊢
        clear nq osq
        have HV := Lib.hid hv
        clear hv
        go_wp2
        go_roundg (m - i)
        case measure => omega
        case rel => exact ⟨i, m, rfl, rfl, hi, by omega, by omega, by omega, S2, HI, Lib.hid (.inr (by rw [← HXY.out.1, ← HXY.out.2]; exact HV.out))⟩
      · have hd : decide (cf x y < 0) = false := decide_eq_false hv
        go_wp2_with fail
        go_quiet_grown (first | (go_at_fn g; refine Calls.grown_of (hc _ _)))
        have S2 : Aside (SW (encK rk) w0 blk off d (grow (wr.drewN nq) osq)) := S1.out.grown nq osq
        clear l1 l2 hc S1
        generalize grow (wr.drewN nq) osq = w2 at S2 ⊢
        clear nq osq
        have HV : Hid (0 ≤ cf x y) := Lib.hid (by omega)
        clear hv
        go_wp2
        go_roundg (j - (m + 1))
        case measure => omega
        case rel => exact ⟨m + 1, j, by go_num, rfl, by omega, by omega, hjb, by omega, S2, Lib.hid (.inr (by rw [Nat.add_sub_cancel, ← HXY.out.1, ← HXY.out.2]; exact HV.out)), HJ⟩
    · obtain rfl : i = j := by omega
      go_wp2_with fail
      go_loopg [17] (m0 - i) (fun g2 vk wr2 => ∃ (k : Nat) (dk : Array α), vk = .int .i64 k ∧ i ≤ k ∧ k ≤ m0 ∧ k - i ≤ g2 ∧ Aside (SW (encK rk) w0 blk off dk wr2) ∧ Hid (dk.size = d.size) ∧ Hid (PermIn i (m0 + 1) d dk) ∧ Hid (∀ j, dk[j]! = d[rotI k m0 (m0 + 1) j]!))
      case atStart => exact ⟨m0, d, rfl, by omega, by omega, by omega, S1, Lib.hid rfl, Lib.hid (permIn_refl _ _ _), Lib.hid fun j => by rw [rotI_id' m0 (m0 + 1) j (by omega)]⟩
      case round =>
        clear S1
        obtain ⟨k, dk, rfl, hak, hki, hg2, S1, HZ, HP, HR⟩ := hrel
        by_cases hlt : i < k
        · obtain ⟨q, hq⟩ : ∃ q, k = q + 1 := ⟨k - 1, by omega⟩
          have ez := HZ.out
          have hs := HS.out
          have hbm := HM0.out
          have S3 := S1.out.swapped R k q (by omega) (by omega)
          have ca := S1.out.c1 R (by omega) k (by omega)
          have cb' := S1.out.c1 R (by omega) q (by omega)
          have fa := S1.out.f1 R (by omega) k (by omega)
          have fb := S1.out.f1 R (by omega) q (by omega)
          obtain ⟨u, cc⟩ := S1.out.c2 R (by omega) k q (by omega) (by omega) (encK rk dk[q]!)
          unfold encK at S3 ca cb' cc
          obtain ⟨x, hx⟩ : ∃ x, x = rk dk[k]! := ⟨_, rfl⟩
          obtain ⟨y, hy⟩ : ∃ x, x = rk dk[q]! := ⟨_, rfl⟩
          rw [← hx] at S3 ca
          rw [← hy] at S3 cb' cc
          have HS3 : Aside _ := S3
          have HPQ : Hid (k = q + 1) := hq
          have e2 : (k : Int) - 1 = q := by omega
          have l1 : (k : Int) < (d.size : Int) := by omega
          have l2 : (q : Int) < (d.size : Int) := by omega
          have r2 : IntKind.i64.wrap ((k : Int) - 1) = q := by rw [IntKind.wrap_i64]; omega
          have t1 : (i : Int) < k := by omega
          clear S3 hx hy hq ez S1 hs hbm
          go_wp2_with fail
          go_big_region
          clear ca cb' cc fa fb
          generalize ((wr.setCell ⟨blk, off + k, none⟩ (.int .i64 y)).setCell ⟨blk, off + q, none⟩ (.int .i64 x)).drew = w3 at HS3 ⊢
          clear l1 l2 r2
          go_wp2
          go_roundg (k - 1 - i)
          case measure => omega
          case rel =>
            have hq := HPQ.out
            have ez := HZ.out
            have hbm := HM0.out
            refine ⟨q, swp dk k q, rfl, by omega, by omega, by omega, HS3, Lib.hid (by rw [size_swp]; exact ez), Lib.hid (permIn_trans _ _ _ _ _ HP.out (swp_permIn dk i (m0 + 1) k q (by omega) (by omega) (by omega) (by omega) (by omega))), Lib.hid fun j => ?_⟩
            have hr := HR.out
            rw [hq] at hr ⊢
            exact rot_down (by omega) (by omega) hr ez j
        · obtain rfl : k = i := by omega
          have t1 : ¬ (k : Int) < k := by omega
          go_wp2
          go_end0
          have hbm := HM0.out
          subst hbm
          obtain ⟨q1, q2⟩ := one_right HOK.out rfl hb hi hjb HSR.out HCO.out HJ.out (by have := HI.out; omega) HR.out HP.out
          exact ⟨rfl, dk, S1.out, q1, q2⟩
end
end Go.Proofs.YtccpelfnkjckiaaDoor
