/-
  WALKS: slices.swapRangeCmpFunc and slices.rotateCmpFunc at numbers.
-/
import Derived.Test.YtccpelfnkjckiaaDoorWords
import Derived.Test.YtccpelfnkjckiaaDoorStab
import Derived.Test.YtccpelfnkjckiaaDoorShelf
import Derived.Shelf.SlSortCmp.Insertion1
import Derived.BigRegion
import Derived.Deep.LoopGhost
namespace Go.Proofs.YtccpelfnkjckiaaDoor
open Go.RowKit Go.Sort Go.Lib

/-- A number of a rank stands for an element. -/
def encK {α : Type} (rk : α → Nat) (x : α) : Value := .int .i64 (rk x)
theorem encK_one {α : Type} (rk : α → Nat) : OneCell (encK rk) := fun _ => rfl

/-- What the sort's functions leave: the places from lo to hi are permuted. -/
def StRet {α : Type} [Inhabited α] (rk : α → Nat) (w0 : World) (blk off lo hi : Nat) (d : Array α) (Q : Array α → Prop) (e : Ending) (w' : World) : Prop :=
  e = .returned (.tuple #[]) ∧ ∃ d', SW (encK rk) w0 blk off d' w' ∧ PermIn lo hi d d' ∧ Q d'

section
variable {α : Type} [Inhabited α] {rk : α → Nat} {w0 w : World} {blk off cap : Nat} {d0 d : Array α}

set_option maxRecDepth 100000 in
set_option maxHeartbeats 4000000 in
theorem swapRange_any (a b n : Nat) (cv : Value) (R : Row1 (encK rk) w0 blk off d0) (hs : d0.size = d.size) (S : SW (encK rk) w0 blk off d w) (hab : a + n ≤ b) (hb : b + n ≤ d.size) (hsz : d.size < 4611686018427387904) :
    Calls Tryd.prog 113 #[.slice (some ⟨blk, off, none⟩) d.size cap, .int .i64 a, .int .i64 b, .int .i64 n, cv] w (StRet rk w0 blk off a (b + n) d fun d' => ∀ j, d'[j]! = d[swI a b n j]!) := by
  have S0 : Aside (SW (encK rk) w0 blk off d w) := S
  clear S
  go_enter Tryd.func113, Tryd.ntmps113
  go_wp2
  go_loopg [10] n (fun g1 vi wr => ∃ (i : Nat) (dk : Array α), vi = .int .i64 i ∧ i ≤ n ∧ n - i ≤ g1 ∧ Aside (SW (encK rk) w0 blk off dk wr) ∧ Hid (dk.size = d.size) ∧ Hid (PermIn a (b + n) d dk) ∧ Hid (∀ j, dk[j]! = d[swI a b i j]!))
  case atStart => exact ⟨0, d, rfl, by omega, by omega, S0, Lib.hid rfl, Lib.hid (permIn_refl d a (b + n)), Lib.hid fun j => by rw [swI_zero]⟩
  case round =>
    clear S0
    obtain ⟨i, dk, rfl, hin, hg1, S1, HZ, HP, HR⟩ := hrel
    by_cases hlt : i < n
    · obtain ⟨p, hp⟩ : ∃ p, p = a + i := ⟨_, rfl⟩
      obtain ⟨q, hq⟩ : ∃ q, q = b + i := ⟨_, rfl⟩
      have ez := HZ.out
      have S3 := S1.out.swapped R p q (by omega) (by omega)
      have ca := S1.out.c1 R (by omega) p (by omega)
      have cb := S1.out.c1 R (by omega) q (by omega)
      have fa := S1.out.f1 R (by omega) p (by omega)
      have fb := S1.out.f1 R (by omega) q (by omega)
      obtain ⟨u, cc⟩ := S1.out.c2 R (by omega) p q (by omega) (by omega) (encK rk dk[q]!)
      unfold encK at S3 ca cb cc
      obtain ⟨x, hx⟩ : ∃ x, x = rk dk[p]! := ⟨_, rfl⟩
      obtain ⟨y, hy⟩ : ∃ x, x = rk dk[q]! := ⟨_, rfl⟩
      rw [← hx] at S3 ca
      rw [← hy] at S3 cb cc
      have HS3 : Aside _ := S3
      have HPQ : Hid (p = a + i ∧ q = b + i) := ⟨hp, hq⟩
      have e1 : ((a : Int) + i).toNat = p := by omega
      have e2 : ((b : Int) + i).toNat = q := by omega
      have r1 : IntKind.i64.wrap ((a : Int) + i) = (a : Int) + i := by rw [IntKind.wrap_i64]; omega
      have r2 : IntKind.i64.wrap ((b : Int) + i) = (b : Int) + i := by rw [IntKind.wrap_i64]; omega
      have z1 : (0 : Int) ≤ (a : Int) + i := by omega
      have z2 : (0 : Int) ≤ (b : Int) + i := by omega
      have l1 : (a : Int) + i < (d.size : Int) := by omega
      have l2 : (b : Int) + i < (d.size : Int) := by omega
      clear S3 hx hy hp hq ez S1
      go_wp2_with fail
      go_big_region
      clear ca cb cc fa fb
      generalize ((wr.setCell ⟨blk, off + p, none⟩ (.int .i64 y)).setCell ⟨blk, off + q, none⟩ (.int .i64 x)).drew = w3 at HS3 ⊢
      clear e1 e2 r1 r2 z1 z2 l1 l2
      go_wp2
      go_roundg (n - (i + 1))
      case measure => omega
      case rel =>
        obtain ⟨hp, hq⟩ := HPQ.out
        have ez := HZ.out
        refine ⟨i + 1, swp dk p q, by go_num, by omega, by omega, HS3, Lib.hid (by rw [size_swp]; exact ez), Lib.hid (permIn_trans _ _ _ _ _ HP.out (swp_permIn dk a (b + n) p q (by omega) (by omega) (by omega) (by omega) (by omega))), Lib.hid fun j => ?_⟩
        rw [hp, hq]
        exact sw_more (by omega) (by omega) HR.out ez j
    · obtain rfl : i = n := by omega
      go_wp2
      go_end0
      exact ⟨rfl, dk, S1.out, HP.out, HR.out⟩

set_option maxRecDepth 100000 in
set_option maxHeartbeats 4000000 in
theorem rotate_any (a m b : Nat) (cv : Value) (R : Row1 (encK rk) w0 blk off d0) (hs : d0.size = d.size) (S : SW (encK rk) w0 blk off d w) (ham : a < m) (hmb : m < b) (hb : b ≤ d.size) (hsz : d.size < 4611686018427387904) :
    Calls Tryd.prog 91 #[.slice (some ⟨blk, off, none⟩) d.size cap, .int .i64 a, .int .i64 m, .int .i64 b, cv] w (StRet rk w0 blk off a b d fun d' => ∀ j, d'[j]! = d[rotI a m b j]!) := by
  have S0 : Aside (SW (encK rk) w0 blk off d w) := S
  have HS := Lib.hid hs
  clear S hs
  go_enter Tryd.func91, Tryd.ntmps91
  go_wp2
  go_loopg [10, 11] (b - a) (fun g1 vi vj wr => ∃ (i j : Nat) (dk : Array α), vi = .int .i64 i ∧ vj = .int .i64 j ∧ 0 < i ∧ 0 < j ∧ a + i ≤ m ∧ m + j ≤ b ∧ i + j ≤ g1 ∧ Aside (SW (encK rk) w0 blk off dk wr) ∧ Hid (dk.size = d.size) ∧ Hid (PermIn a b d dk) ∧ Hid (∀ k, d[rotI a m b k]! = dk[rotI (m - i) m (m + j) k]!))
  case atStart => exact ⟨m - a, b - m, d, by congr 1; omega, by congr 1; omega, by omega, by omega, by omega, by omega, by omega, S0, Lib.hid rfl, Lib.hid (permIn_refl d a b), Lib.hid fun k => by rw [show m - (m - a) = a by omega, show m + (b - m) = b by omega]⟩
  case round =>
    clear S0
    obtain ⟨i, j, dk, rfl, rfl, hi, hj, him, hjb, hg1, S1, HZ, HP, HR⟩ := hrel
    obtain ⟨p, hp⟩ : ∃ p, p + i = m := ⟨m - i, by omega⟩
    have ep : (m : Int) - i = p := by omega
    have HEP : Hid (p = m - i) := Lib.hid (by omega)
    have hpa : a ≤ p := by omega
    clear hp
    rcases Nat.lt_trichotomy i j with hij | hij | hij
    · obtain ⟨q, hq⟩ : ∃ q, q + i = j := ⟨j - i, by omega⟩
      have eq1 : (j : Int) - i = q := by omega
      obtain ⟨r, hr⟩ : ∃ r, r = m + q := ⟨_, rfl⟩
      have er : (m : Int) + j - i = r := by omega
      have n1 : ((i : Int) != j) = true := by simp; omega
      have n2 : (i != j) = true := by simp; omega
      have n3 : decide (j < i) = false := by simp; omega
      have n4 : decide ((j : Int) < i) = false := by simp; omega
      have HQ : Hid (q + i = j ∧ r = m + q) := ⟨hq, hr⟩
      clear hq hr
      go_wp2_with fail
      have hz := HZ.out
      have HC := swapRange_any (cap := cap) p r i cv R (HS.out.trans hz.symm) S1.out (by have := HQ.out; have := HEP.out; omega) (by have := HQ.out; omega) (by omega)
      rw [hz] at HC
      clear hz
      refine HC.mono ?_
      clear HC S1
      rintro e w1 ⟨rfl, d2, S2, hp2, hr2⟩
      have S2 : Aside (SW (encK rk) w0 blk off d2 w1) := S2
      have H2 : Hid (PermIn p (r + i) dk d2 ∧ ∀ k, d2[k]! = dk[swI p r i k]!) := ⟨hp2, hr2⟩
      clear hp2 hr2
      go_wp2
      go_roundg (i + j - i)
      case measure => omega
      case rel =>
        obtain ⟨h2a, h2b⟩ := H2.out
        obtain ⟨hq, hr⟩ := HQ.out
        have hp := HEP.out
        have hz := HZ.out
        refine ⟨i, q, d2, rfl, rfl, hi, by omega, him, by omega, by omega, S2, Lib.hid (by rw [h2a.1]; exact hz), Lib.hid (permIn_trans _ _ _ _ _ HP.out (permIn_mono dk d2 p (r + i) a b hpa (by omega) (by omega) h2a)), Lib.hid fun k => ?_⟩
        rw [HR.out, h2b, rot_right hij (by omega)]
        rw [hp, hr, show m + j - i = m + q by omega, show j - i = q by omega]
    · subst hij
      have n1 : ((i : Int) != i) = false := by simp
      have n2 : (i != i) = false := by simp
      go_wp2_with fail
      have hz := HZ.out
      have HC := swapRange_any (cap := cap) p m i cv R (HS.out.trans hz.symm) S1.out (by have := HEP.out; omega) (by omega) (by omega)
      rw [hz] at HC
      clear hz
      refine HC.mono ?_
      clear HC S1
      rintro e w1 ⟨rfl, d2, S2, hp2, hr2⟩
      have S2 : Aside (SW (encK rk) w0 blk off d2 w1) := S2
      have H2 : Hid (PermIn p (m + i) dk d2 ∧ ∀ k, d2[k]! = dk[swI p m i k]!) := ⟨hp2, hr2⟩
      clear hp2 hr2
      go_wp2
      go_end0
      obtain ⟨h2a, h2b⟩ := H2.out
      have hp := HEP.out
      have hz := HZ.out
      refine ⟨rfl, d2, S2, permIn_trans _ _ _ _ _ HP.out (permIn_mono dk d2 p (m + i) a b hpa (by omega) (by omega) h2a), fun k => ?_⟩
      rw [HR.out, h2b, rot_even (by omega), hp]
    · obtain ⟨q, hq⟩ : ∃ q, q + j = i := ⟨i - j, by omega⟩
      have eq1 : (i : Int) - j = q := by omega
      have n1 : ((i : Int) != j) = true := by simp; omega
      have n2 : (i != j) = true := by simp; omega
      have n3 : decide (j < i) = true := by simp; omega
      have n4 : decide ((j : Int) < i) = true := by simp; omega
      have HQ : Hid (q + j = i) := hq
      clear hq
      go_wp2_with fail
      have hz := HZ.out
      have HC := swapRange_any (cap := cap) p m j cv R (HS.out.trans hz.symm) S1.out (by have := HEP.out; omega) (by omega) (by omega)
      rw [hz] at HC
      clear hz
      refine HC.mono ?_
      clear HC S1
      rintro e w1 ⟨rfl, d2, S2, hp2, hr2⟩
      have S2 : Aside (SW (encK rk) w0 blk off d2 w1) := S2
      have H2 : Hid (PermIn p (m + j) dk d2 ∧ ∀ k, d2[k]! = dk[swI p m j k]!) := ⟨hp2, hr2⟩
      clear hp2 hr2
      go_wp2
      go_roundg (i + j - j)
      case measure => omega
      case rel =>
        obtain ⟨h2a, h2b⟩ := H2.out
        have hq := HQ.out
        have hp := HEP.out
        have hz := HZ.out
        refine ⟨q, j, d2, rfl, rfl, by omega, hj, by omega, hjb, by omega, S2, Lib.hid (by rw [h2a.1]; exact hz), Lib.hid (permIn_trans _ _ _ _ _ HP.out (permIn_mono dk d2 p (m + j) a b hpa (by omega) (by omega) h2a)), Lib.hid fun k => ?_⟩
        rw [HR.out, h2b, rot_left hij (by omega)]
        rw [hp, show i - j = q by omega]
end
end Go.Proofs.YtccpelfnkjckiaaDoor
