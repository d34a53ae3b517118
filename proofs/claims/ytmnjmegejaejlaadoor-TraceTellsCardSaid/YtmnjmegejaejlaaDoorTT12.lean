/-
  WALKS: token.IsKeyword, token.IsName.
-/
import Derived.Test.YtmnjmegejaejlaaDoorTT10
import Derived.Laws.RangeString
import Derived.Laws.RangeAny
import Derived.Deep.MidRow
namespace Go.Proofs.YtmnjmegejaejlaaDoor
open Go.RowKit

def strV (l : List (List UInt8)) : List Value := l.map fun s => Value.string ⟨s.toArray⟩
theorem run_strings_index (T : TypeId) (n : Nat) (hu : Tryd.prog.underlying T = some (.array n 9)) (l : List (List UInt8)) (hn : l.length = n) (k : Nat) (s : List UInt8) (h : l[k]? = some s) (w : World) :
    (Instr.index T (.agg (l.map fun s => Value.string ⟨s.toArray⟩).toArray) (.int .i64 (k : Int))).run Tryd.prog w = .ok (.string ⟨s.toArray⟩) w := by
  have hk : k < n := by rw [← hn]; exact (List.getElem?_eq_some_iff.1 h).1
  have hs : (sizeOf 9).run Tryd.prog w = .ok 1 w := by kernel_rfl
  have hg : (isAgg 9).run Tryd.prog w = .ok false w := by kernel_rfl
  have hp : (part 9 (l.map fun s => Value.string ⟨s.toArray⟩).toArray (k * 1)).run Tryd.prog w = .ok (.string ⟨s.toArray⟩) w := by
    unfold part
    rw [Sem.run_bind, hg]
    simp [Result.andThen, h]
  simp only [Instr.index, asIntOf, Sem.run_bind, Sem.run_pure, Result.andThen_ok, run_underlying hu]
  rw [if_pos (by omega)]
  simp only [Sem.run_bind, hs, Result.andThen_ok, Int.toNat_natCast]
  exact hp
theorem idx_key (k : Nat) (s : List UInt8) (h : keysL[k]? = some s) (w : World) : (Instr.index 133 (.agg (strV keysL).toArray) (.int .i64 (k : Int))).run Tryd.prog w = .ok (.string ⟨s.toArray⟩) w :=
  run_strings_index 133 22 Tryd.underlying133 keysL rfl k s h w
theorem keys_range (w : World) (hp : PT w) : w.rangeAt 3 0 (strV keysL) := fun j v hv => by
  unfold strV at hv
  rw [List.getElem?_map] at hv
  cases e : keysL[j]? with
  | none => rw [e] at hv; cases hv
  | some s => rw [e] at hv; injection hv with hv; subst hv; rw [Nat.zero_add]; exact hp.kw j s e
theorem contains_take {l : List (List UInt8)} {s p : List UInt8} {k : Nat} (h : s ∉ l.take k) (hp : l[k]? = some p) (hne : s ≠ p) : s ∉ l.take (k + 1) := by
  rw [take_succ_of hp]
  intro hm
  rcases List.mem_append.1 hm with hm | hm
  · exact h hm
  · rw [List.mem_singleton] at hm; exact hne hm
set_option maxRecDepth 100000 in
set_option maxHeartbeats 4000000 in
theorem tkey_any (s : List UInt8) (w : World) (hp : PT w) :
    Calls Tryd.prog 73 #[.string ⟨s.toArray⟩] w fun e w' => e = .returned (.bool (keysL.contains s)) ∧ w' = w := by
  have HRG := Lib.hid (keys_range w hp)
  have HSZ : Hid ((Tryd.prog.info? 133).map (·.size) = some (strV keysL).length) := Lib.hid (by kernel_rfl)
  have HIX : Hid (∀ (k : Nat) (s : List UInt8), keysL[k]? = some s → ∀ w, (Instr.index 133 (.agg (strV keysL).toArray) (.int .i64 (k : Int))).run Tryd.prog w = .ok (.string ⟨s.toArray⟩) w) := Lib.hid idx_key
  have HLN : Hid (keysL.length = 22) := Lib.hid rfl
  generalize strV keysL = cs at *
  clear hp
  go_enter Tryd.func73, Tryd.ntmps73
  go_wp2_with (refine wpList_load_mid rfl 133 _ rfl 3 0 rfl cs _ HRG.out Tryd.underlying133 rfl HSZ.out ?_)
  clear HRG HSZ
  go_loopw [6] (fun i wr => ∃ k : Nat, k ≤ 22 ∧ i = .int .i64 k ∧ Hid (s ∉ keysL.take k) ∧ wr = w) (fun i _ => 22 - (intOf i).toNat)
  case atStart => exact ⟨0, by omega, rfl, Lib.hid (by simp), rfl⟩
  case round =>
    obtain ⟨k, hk, rfl, HNI, rfl⟩ := hrel
    by_cases hk2 : k < 22
    · obtain ⟨p, hp⟩ : ∃ p, keysL[k]? = some p := ⟨_, List.getElem?_eq_getElem (by have := HLN.out; omega)⟩
      have hix := HIX.out k p hp
      have HP := Lib.hid hp
      clear hp
      by_cases hsp : s = p
      · have q0 : (s == p) = true := by rw [beq_iff_eq]; exact hsp
        have HC : Hid (keysL.contains s = true) := Lib.hid (by rw [List.contains_iff_mem, hsp]; exact List.mem_of_getElem? HP.out)
        clear hsp
        go_wp2_with fail
        go_ret
        exact ⟨by rw [HC.out]; rfl, rfl⟩
      · have q0 : (s == p) = false := by rw [beq_eq_false_iff_ne]; exact hsp
        have HN2 : Hid (s ∉ keysL.take (k + 1)) := Lib.hid (contains_take HNI.out HP.out hsp)
        clear hsp
        go_wp2_with fail
        go_roundw
        case rel => exact ⟨k + 1, by omega, by go_num, HN2, trivial⟩
        case measure => simp [intOf]; omega
    · obtain rfl : k = 22 := by omega
      have HC : Hid (keysL.contains s = false) := Lib.hid (by
        have h := HNI.out
        rw [show keysL.take 22 = keysL from rfl] at h
        cases e : keysL.contains s with
        | false => rfl
        | true => rw [List.contains_iff_mem] at e; exact absurd e h)
      go_wp2_with fail
      go_ret
      exact ⟨by rw [HC.out]; rfl, rfl⟩

/-- A name under way: the bytes ahead of pos are right. -/
def NameTo (s : List UInt8) (pos : Nat) : Prop := ∀ (j : Nat) (c : UInt8), j < pos → s[j]? = some c → (if j = 0 then letterB c else innerB c) = true
theorem nameTo_all {s : List UInt8} (h : NameTo s s.length) (h0 : s ≠ []) (hl : s.length ≤ 12) (hk : keysL.contains s = false) : nameB s = true := by
  cases s with
  | nil => exact absurd rfl h0
  | cons c r =>
    unfold nameB
    have h1 := h 0 c (by simp) rfl
    rw [if_pos rfl] at h1
    have h2 : r.all innerB = true := by
      rw [List.all_eq_true]
      intro x hx
      obtain ⟨j, hj⟩ := List.getElem?_of_mem hx
      have := h (j + 1) x (by have := (List.getElem?_eq_some_iff.1 hj).1; simp; omega) (by simpa using hj)
      rwa [if_neg (by omega)] at this
    simp only [hk, h1, h2, Bool.not_false, Bool.and_true, decide_eq_true_eq]
    exact hl
theorem nameTo_bad {s : List UInt8} {j : Nat} {c : UInt8} (hj : s[j]? = some c) (h : (if j = 0 then letterB c else innerB c) = false) : nameB s = false := by
  cases s with
  | nil => rfl
  | cons d r =>
    unfold nameB
    cases j with
    | zero =>
      simp at hj; subst hj
      rw [if_pos rfl] at h
      simp [h]
    | succ j =>
      rw [if_neg (by omega)] at h
      have : r.all innerB = false := by
        rw [List.all_eq_false]
        exact ⟨c, List.mem_of_getElem? (by simpa using hj), by simp [h]⟩
      simp [this]
theorem nameTo_step {s : List UInt8} {j : Nat} {c : UInt8} (h : NameTo s j) (hj : s[j]? = some c) (hc : (if j = 0 then letterB c else innerB c) = true) : NameTo s (j + 1) := by
  intro k d hk hd
  rcases Nat.lt_or_ge k j with h1 | h1
  · exact h k d h1 hd
  · obtain rfl : k = j := by omega
    rw [hj] at hd; injection hd with hd; subst hd; exact hc
theorem width_posT (s : ByteArray) (pos : Nat) (h : pos < s.size) (ha : 128 ≤ (s[pos]'h).toNat) : 1 ≤ (Utf8.decode s pos).2 ∧ 128 ≤ (Utf8.decode s pos).1 := ⟨(decode_high s pos h ha).2, (decode_high s pos h ha).1⟩
theorem letterB_nat (c : UInt8) : letterB c = ((decide (97 ≤ c.toNat) && decide (c.toNat ≤ 122)) || (decide (65 ≤ c.toNat) && decide (c.toNat ≤ 90))) := by
  unfold letterB; simp only [UInt8.le_iff_toNat_le]; rfl
theorem innerB_nat (c : UInt8) : innerB c = (((decide (97 ≤ c.toNat) && decide (c.toNat ≤ 122)) || (decide (65 ≤ c.toNat) && decide (c.toNat ≤ 90))) || (decide (48 ≤ c.toNat) && decide (c.toNat ≤ 57)) || decide (c.toNat = 95)) := by
  unfold innerB; rw [letterB_nat]; simp only [UInt8.le_iff_toNat_le]
  have : (c == 95) = decide (c.toNat = 95) := by
    rw [Bool.eq_iff_iff, beq_iff_eq, decide_eq_true_eq]; exact ⟨fun e => by rw [e]; rfl, fun e => UInt8.toNat_inj.1 e⟩
  rw [this]; rfl
set_option maxRecDepth 100000 in
set_option maxHeartbeats 8000000 in
theorem tname_any (s : List UInt8) (w : World) (hp : PT w) (hl : s.length ≤ 1000000000) :
    Calls Tryd.prog 50 #[.string ⟨s.toArray⟩] w fun e w' => e = .returned (.bool (nameB s)) ∧ Below w.heap.size w w' := by
  have HKC := Lib.hid (tkey_any s w hp)
  clear hp
  go_enter Tryd.func50, Tryd.ntmps50
  by_cases h0 : s = []
  · subst h0
    go_wp2_with fail
    go_ret
    exact ⟨rfl, Below.refl _ _⟩
  · have hpos : 0 < s.length := List.length_pos_iff.2 h0
    by_cases h12 : 12 < s.length
    · have HB : Hid (nameB s = false) := Lib.hid (by
        cases s with
        | nil => rfl
        | cons c r => unfold nameB; rw [show decide ((c :: r).length ≤ 12) = false by simp; simp at h12; omega]; rfl)
      clear h0
      go_wp2_with fail
      go_ret
      exact ⟨by rw [HB.out]; rfl, Below.refl _ _⟩
    · by_cases hk : keysL.contains s = true
      · have HB : Hid (nameB s = false) := Lib.hid (by
          cases s with
          | nil => rfl
          | cons c r => unfold nameB; rw [hk]; simp)
        rw [hk] at HKC
        clear hk h0
        go_wp2_with fail
        refine HKC.out.mono ?_
        rintro e w2 ⟨rfl, rfl⟩
        go_wp2_with fail
        go_ret
        exact ⟨by rw [HB.out]; rfl, Below.refl _ _⟩
      · have hk2 : keysL.contains s = false := by simpa using hk
        have HAL : Hid (NameTo s s.length → nameB s = true) := Lib.hid (fun h => nameTo_all h h0 (by omega) hk2)
        rw [hk2] at HKC
        clear hk hk2 h0
        go_wp2_with fail
        refine HKC.out.mono ?_
        rintro e w2 ⟨rfl, rfl⟩
        go_wp2_with fail
        go_loopw [3] (fun _ wr => ∃ pos : Nat, wr = w2.iter ⟨s.toArray⟩ pos ∧ pos ≤ s.length ∧ Hid (NameTo s pos)) (fun _ wr => s.length - wr.iterPos w2.heap.size)
        case atStart => exact ⟨0, rfl, by omega, Lib.hid (fun j c h => by omega)⟩
        case round =>
          obtain ⟨pos, rfl, hple, HNT⟩ := hrel
          have hsz : (⟨s.toArray⟩ : ByteArray).size = s.length := by simp [ByteArray.size]
          by_cases hp : pos < s.length
          · obtain ⟨c, hc⟩ : ∃ c, s[pos]? = some c := ⟨_, List.getElem?_eq_getElem hp⟩
            have hp2 : pos < (⟨s.toArray⟩ : ByteArray).size := by rw [hsz]; exact hp
            have hcc : (⟨s.toArray⟩ : ByteArray)[pos]'hp2 = c := by
              have h1 : s[pos] = c := by rw [List.getElem?_eq_getElem hp] at hc; injection hc
              exact h1
            have HC := Lib.hid hc
            have HSZ := Lib.hid hsz
            clear hsz hc
            by_cases ha : c.toNat < 128
            · have hnx : ∀ ty, (Instr.next (.pointer (some ⟨w2.heap.size, 0, none⟩)) true ty).run Tryd.prog (w2.iter ⟨s.toArray⟩ pos) = .ok (.tuple #[.bool true, .int .i64 pos, .int .i32 (c.toNat : Int)]) (w2.iter ⟨s.toArray⟩ (pos + 1)) := fun ty => by
                have h := run_next_ascii (P := Tryd.prog) w2 ⟨s.toArray⟩ pos ty hp2 (by rw [hcc]; exact ha)
                rw [hcc] at h; exact h
              obtain ⟨n, hn⟩ : ∃ n, c.toNat = n := ⟨_, rfl⟩
              have HLE := Lib.hid (letterB_nat c)
              have HIN := Lib.hid (innerB_nat c)
              rw [hn] at hnx HLE HIN ha
              clear hcc hp2 hn
              have hps : Hid (pos = 0) ∨ 0 < pos := by
                rcases Nat.eq_zero_or_pos pos with h | h
                · exact .inl (Lib.hid h)
                · exact .inr h
              rcases (show (0 ≤ n ∧ n ≤ 47) ∨ (48 ≤ n ∧ n ≤ 57) ∨ (58 ≤ n ∧ n ≤ 64) ∨ (65 ≤ n ∧ n ≤ 90) ∨ (91 ≤ n ∧ n ≤ 94) ∨ (95 ≤ n ∧ n ≤ 95) ∨ (96 ≤ n ∧ n ≤ 96) ∨ (97 ≤ n ∧ n ≤ 122) ∨ (123 ≤ n ∧ n ≤ 127) by omega) with hn | hn | hn | hn | hn | hn | hn | hn | hn
              · have t1 : decide ((97 : Int) ≤ (n : Int)) = false := by simp; omega
                have t2 : decide ((n : Int) ≤ 122) = true := by simp; omega
                have t3 : decide ((65 : Int) ≤ (n : Int)) = false := by simp; omega
                have t4 : decide ((n : Int) ≤ 90) = true := by simp; omega
                have t5 : ((n : Int) == 95) = false := by rw [beq_eq_false_iff_ne]; omega
                have t6 : decide ((48 : Int) ≤ (n : Int)) = false := by simp; omega
                have t7 : decide ((n : Int) ≤ 57) = true := by simp; omega
                have HL2 : Hid (letterB c = false) := Lib.hid (by rw [HLE.out]; simp; omega)
                have HI2 : Hid (innerB c = false) := Lib.hid (by rw [HIN.out]; simp; omega)
                clear HLE HIN
                rcases hps with h8 | h8
                · have t8 : ¬ 0 < pos := by have := h8.out; omega
                  have HB : Hid (nameB s = false) := Lib.hid (nameTo_bad HC.out (by rw [if_pos h8.out]; exact HL2.out))
                  go_wp2_with fail
                  go_ret
                  exact ⟨by rw [HB.out]; rfl, (Below.refl _ _).alloc (Nat.le_refl _) _⟩
                · have t8 : decide ((0 : Int) < (pos : Int)) = true := by simp; omega
                  have HB : Hid (nameB s = false) := Lib.hid (nameTo_bad HC.out (by rw [if_neg (by omega)]; exact HI2.out))
                  go_wp2_with fail
                  go_ret
                  exact ⟨by rw [HB.out]; rfl, (Below.refl _ _).alloc (Nat.le_refl _) _⟩
              · have t1 : decide ((97 : Int) ≤ (n : Int)) = false := by simp; omega
                have t2 : decide ((n : Int) ≤ 122) = true := by simp; omega
                have t3 : decide ((65 : Int) ≤ (n : Int)) = false := by simp; omega
                have t4 : decide ((n : Int) ≤ 90) = true := by simp; omega
                have t5 : ((n : Int) == 95) = false := by rw [beq_eq_false_iff_ne]; omega
                have t6 : decide ((48 : Int) ≤ (n : Int)) = true := by simp; omega
                have t7 : decide ((n : Int) ≤ 57) = true := by simp; omega
                have HL2 : Hid (letterB c = false) := Lib.hid (by rw [HLE.out]; simp; omega)
                have HI2 : Hid (innerB c = true) := Lib.hid (by rw [HIN.out]; simp; omega)
                clear HLE HIN
                rcases hps with h8 | h8
                · have t8 : ¬ 0 < pos := by have := h8.out; omega
                  have HB : Hid (nameB s = false) := Lib.hid (nameTo_bad HC.out (by rw [if_pos h8.out]; exact HL2.out))
                  go_wp2_with fail
                  go_ret
                  exact ⟨by rw [HB.out]; rfl, (Below.refl _ _).alloc (Nat.le_refl _) _⟩
                · have t8 : decide ((0 : Int) < (pos : Int)) = true := by simp; omega
                  have HN2 : Hid (NameTo s (pos + 1)) := Lib.hid (nameTo_step HNT.out HC.out (by rw [if_neg (by omega)]; exact HI2.out))
                  go_wp2_with fail
                  go_roundw
                  case rel => exact ⟨pos + 1, rfl, by omega, HN2⟩
                  case measure => simp; omega
              · have t1 : decide ((97 : Int) ≤ (n : Int)) = false := by simp; omega
                have t2 : decide ((n : Int) ≤ 122) = true := by simp; omega
                have t3 : decide ((65 : Int) ≤ (n : Int)) = false := by simp; omega
                have t4 : decide ((n : Int) ≤ 90) = true := by simp; omega
                have t5 : ((n : Int) == 95) = false := by rw [beq_eq_false_iff_ne]; omega
                have t6 : decide ((48 : Int) ≤ (n : Int)) = true := by simp; omega
                have t7 : decide ((n : Int) ≤ 57) = false := by simp; omega
                have HL2 : Hid (letterB c = false) := Lib.hid (by rw [HLE.out]; simp; omega)
                have HI2 : Hid (innerB c = false) := Lib.hid (by rw [HIN.out]; simp; omega)
                clear HLE HIN
                rcases hps with h8 | h8
                · have t8 : ¬ 0 < pos := by have := h8.out; omega
                  have HB : Hid (nameB s = false) := Lib.hid (nameTo_bad HC.out (by rw [if_pos h8.out]; exact HL2.out))
                  go_wp2_with fail
                  go_ret
                  exact ⟨by rw [HB.out]; rfl, (Below.refl _ _).alloc (Nat.le_refl _) _⟩
                · have t8 : decide ((0 : Int) < (pos : Int)) = true := by simp; omega
                  have HB : Hid (nameB s = false) := Lib.hid (nameTo_bad HC.out (by rw [if_neg (by omega)]; exact HI2.out))
                  go_wp2_with fail
                  go_ret
                  exact ⟨by rw [HB.out]; rfl, (Below.refl _ _).alloc (Nat.le_refl _) _⟩
              · have t1 : decide ((97 : Int) ≤ (n : Int)) = false := by simp; omega
                have t2 : decide ((n : Int) ≤ 122) = true := by simp; omega
                have t3 : decide ((65 : Int) ≤ (n : Int)) = true := by simp; omega
                have t4 : decide ((n : Int) ≤ 90) = true := by simp; omega
                have t5 : ((n : Int) == 95) = false := by rw [beq_eq_false_iff_ne]; omega
                have t6 : decide ((48 : Int) ≤ (n : Int)) = true := by simp; omega
                have t7 : decide ((n : Int) ≤ 57) = false := by simp; omega
                have HL2 : Hid (letterB c = true) := Lib.hid (by rw [HLE.out]; simp; omega)
                have HI2 : Hid (innerB c = true) := Lib.hid (by rw [HIN.out]; simp; omega)
                clear HLE HIN
                rcases hps with h8 | h8
                · have t8 : ¬ 0 < pos := by have := h8.out; omega
                  have HN2 : Hid (NameTo s (pos + 1)) := Lib.hid (nameTo_step HNT.out HC.out (by rw [if_pos h8.out]; exact HL2.out))
                  go_wp2_with fail
                  go_roundw
                  case rel => exact ⟨pos + 1, rfl, by omega, HN2⟩
                  case measure => simp; omega
                · have t8 : decide ((0 : Int) < (pos : Int)) = true := by simp; omega
                  have HN2 : Hid (NameTo s (pos + 1)) := Lib.hid (nameTo_step HNT.out HC.out (by rw [if_neg (by omega)]; exact HI2.out))
                  go_wp2_with fail
                  go_roundw
                  case rel => exact ⟨pos + 1, rfl, by omega, HN2⟩
                  case measure => simp; omega
              · have t1 : decide ((97 : Int) ≤ (n : Int)) = false := by simp; omega
                have t2 : decide ((n : Int) ≤ 122) = true := by simp; omega
                have t3 : decide ((65 : Int) ≤ (n : Int)) = true := by simp; omega
                have t4 : decide ((n : Int) ≤ 90) = false := by simp; omega
                have t5 : ((n : Int) == 95) = false := by rw [beq_eq_false_iff_ne]; omega
                have t6 : decide ((48 : Int) ≤ (n : Int)) = true := by simp; omega
                have t7 : decide ((n : Int) ≤ 57) = false := by simp; omega
                have HL2 : Hid (letterB c = false) := Lib.hid (by rw [HLE.out]; simp; omega)
                have HI2 : Hid (innerB c = false) := Lib.hid (by rw [HIN.out]; simp; omega)
                clear HLE HIN
                rcases hps with h8 | h8
                · have t8 : ¬ 0 < pos := by have := h8.out; omega
                  have HB : Hid (nameB s = false) := Lib.hid (nameTo_bad HC.out (by rw [if_pos h8.out]; exact HL2.out))
                  go_wp2_with fail
                  go_ret
                  exact ⟨by rw [HB.out]; rfl, (Below.refl _ _).alloc (Nat.le_refl _) _⟩
                · have t8 : decide ((0 : Int) < (pos : Int)) = true := by simp; omega
                  have HB : Hid (nameB s = false) := Lib.hid (nameTo_bad HC.out (by rw [if_neg (by omega)]; exact HI2.out))
                  go_wp2_with fail
                  go_ret
                  exact ⟨by rw [HB.out]; rfl, (Below.refl _ _).alloc (Nat.le_refl _) _⟩
              · have t1 : decide ((97 : Int) ≤ (n : Int)) = false := by simp; omega
                have t2 : decide ((n : Int) ≤ 122) = true := by simp; omega
                have t3 : decide ((65 : Int) ≤ (n : Int)) = true := by simp; omega
                have t4 : decide ((n : Int) ≤ 90) = false := by simp; omega
                have t5 : ((n : Int) == 95) = true := by rw [beq_iff_eq]; omega
                have t6 : decide ((48 : Int) ≤ (n : Int)) = true := by simp; omega
                have t7 : decide ((n : Int) ≤ 57) = false := by simp; omega
                have HL2 : Hid (letterB c = false) := Lib.hid (by rw [HLE.out]; simp; omega)
                have HI2 : Hid (innerB c = true) := Lib.hid (by rw [HIN.out]; simp; omega)
                clear HLE HIN
                rcases hps with h8 | h8
                · have t8 : ¬ 0 < pos := by have := h8.out; omega
                  have HB : Hid (nameB s = false) := Lib.hid (nameTo_bad HC.out (by rw [if_pos h8.out]; exact HL2.out))
                  go_wp2_with fail
                  go_ret
                  exact ⟨by rw [HB.out]; rfl, (Below.refl _ _).alloc (Nat.le_refl _) _⟩
                · have t8 : decide ((0 : Int) < (pos : Int)) = true := by simp; omega
                  have HN2 : Hid (NameTo s (pos + 1)) := Lib.hid (nameTo_step HNT.out HC.out (by rw [if_neg (by omega)]; exact HI2.out))
                  go_wp2_with fail
                  go_roundw
                  case rel => exact ⟨pos + 1, rfl, by omega, HN2⟩
                  case measure => simp; omega
              · have t1 : decide ((97 : Int) ≤ (n : Int)) = false := by simp; omega
                have t2 : decide ((n : Int) ≤ 122) = true := by simp; omega
                have t3 : decide ((65 : Int) ≤ (n : Int)) = true := by simp; omega
                have t4 : decide ((n : Int) ≤ 90) = false := by simp; omega
                have t5 : ((n : Int) == 95) = false := by rw [beq_eq_false_iff_ne]; omega
                have t6 : decide ((48 : Int) ≤ (n : Int)) = true := by simp; omega
                have t7 : decide ((n : Int) ≤ 57) = false := by simp; omega
                have HL2 : Hid (letterB c = false) := Lib.hid (by rw [HLE.out]; simp; omega)
                have HI2 : Hid (innerB c = false) := Lib.hid (by rw [HIN.out]; simp; omega)
                clear HLE HIN
                rcases hps with h8 | h8
                · have t8 : ¬ 0 < pos := by have := h8.out; omega
                  have HB : Hid (nameB s = false) := Lib.hid (nameTo_bad HC.out (by rw [if_pos h8.out]; exact HL2.out))
                  go_wp2_with fail
                  go_ret
                  exact ⟨by rw [HB.out]; rfl, (Below.refl _ _).alloc (Nat.le_refl _) _⟩
                · have t8 : decide ((0 : Int) < (pos : Int)) = true := by simp; omega
                  have HB : Hid (nameB s = false) := Lib.hid (nameTo_bad HC.out (by rw [if_neg (by omega)]; exact HI2.out))
                  go_wp2_with fail
                  go_ret
                  exact ⟨by rw [HB.out]; rfl, (Below.refl _ _).alloc (Nat.le_refl _) _⟩
              · have t1 : decide ((97 : Int) ≤ (n : Int)) = true := by simp; omega
                have t2 : decide ((n : Int) ≤ 122) = true := by simp; omega
                have t3 : decide ((65 : Int) ≤ (n : Int)) = true := by simp; omega
                have t4 : decide ((n : Int) ≤ 90) = false := by simp; omega
                have t5 : ((n : Int) == 95) = false := by rw [beq_eq_false_iff_ne]; omega
                have t6 : decide ((48 : Int) ≤ (n : Int)) = true := by simp; omega
                have t7 : decide ((n : Int) ≤ 57) = false := by simp; omega
                have HL2 : Hid (letterB c = true) := Lib.hid (by rw [HLE.out]; simp; omega)
                have HI2 : Hid (innerB c = true) := Lib.hid (by rw [HIN.out]; simp; omega)
                clear HLE HIN
                rcases hps with h8 | h8
                · have t8 : ¬ 0 < pos := by have := h8.out; omega
                  have HN2 : Hid (NameTo s (pos + 1)) := Lib.hid (nameTo_step HNT.out HC.out (by rw [if_pos h8.out]; exact HL2.out))
                  go_wp2_with fail
                  go_roundw
                  case rel => exact ⟨pos + 1, rfl, by omega, HN2⟩
                  case measure => simp; omega
                · have t8 : decide ((0 : Int) < (pos : Int)) = true := by simp; omega
                  have HN2 : Hid (NameTo s (pos + 1)) := Lib.hid (nameTo_step HNT.out HC.out (by rw [if_neg (by omega)]; exact HI2.out))
                  go_wp2_with fail
                  go_roundw
                  case rel => exact ⟨pos + 1, rfl, by omega, HN2⟩
                  case measure => simp; omega
              · have t1 : decide ((97 : Int) ≤ (n : Int)) = true := by simp; omega
                have t2 : decide ((n : Int) ≤ 122) = false := by simp; omega
                have t3 : decide ((65 : Int) ≤ (n : Int)) = true := by simp; omega
                have t4 : decide ((n : Int) ≤ 90) = false := by simp; omega
                have t5 : ((n : Int) == 95) = false := by rw [beq_eq_false_iff_ne]; omega
                have t6 : decide ((48 : Int) ≤ (n : Int)) = true := by simp; omega
                have t7 : decide ((n : Int) ≤ 57) = false := by simp; omega
                have HL2 : Hid (letterB c = false) := Lib.hid (by rw [HLE.out]; simp; omega)
                have HI2 : Hid (innerB c = false) := Lib.hid (by rw [HIN.out]; simp; omega)
                clear HLE HIN
                rcases hps with h8 | h8
                · have t8 : ¬ 0 < pos := by have := h8.out; omega
                  have HB : Hid (nameB s = false) := Lib.hid (nameTo_bad HC.out (by rw [if_pos h8.out]; exact HL2.out))
                  go_wp2_with fail
                  go_ret
                  exact ⟨by rw [HB.out]; rfl, (Below.refl _ _).alloc (Nat.le_refl _) _⟩
                · have t8 : decide ((0 : Int) < (pos : Int)) = true := by simp; omega
                  have HB : Hid (nameB s = false) := Lib.hid (nameTo_bad HC.out (by rw [if_neg (by omega)]; exact HI2.out))
                  go_wp2_with fail
                  go_ret
                  exact ⟨by rw [HB.out]; rfl, (Below.refl _ _).alloc (Nat.le_refl _) _⟩
            · have hw := width_posT ⟨s.toArray⟩ pos hp2 (by rw [hcc]; omega)
              have hnx : ∀ ty, (Instr.next (.pointer (some ⟨w2.heap.size, 0, none⟩)) true ty).run Tryd.prog (w2.iter ⟨s.toArray⟩ pos) = _ := fun ty => run_next_any w2 ⟨s.toArray⟩ pos ty hp2
              have HB : Hid (nameB s = false) := Lib.hid (nameTo_bad HC.out (by
                have h1 := letterB_nat c
                have h2 := innerB_nat c
                have e1 : letterB c = false := by rw [h1]; simp; omega
                have e2 : innerB c = false := by rw [h2]; simp; omega
                split <;> assumption))
              generalize Utf8.decode ⟨s.toArray⟩ pos = d at *
              have t1 : decide ((97 : Int) ≤ (d.1 : Int)) = true := by simp; omega
              have t2 : decide ((d.1 : Int) ≤ 122) = false := by simp; omega
              have t3 : decide ((65 : Int) ≤ (d.1 : Int)) = true := by simp; omega
              have t4 : decide ((d.1 : Int) ≤ 90) = false := by simp; omega
              have t5 : ((d.1 : Int) == 95) = false := by rw [beq_eq_false_iff_ne]; omega
              have t6 : decide ((48 : Int) ≤ (d.1 : Int)) = true := by simp; omega
              have t7 : decide ((d.1 : Int) ≤ 57) = false := by simp; omega
              rcases (show Hid (pos = 0) ∨ 0 < pos by rcases Nat.eq_zero_or_pos pos with h | h; exact .inl (Lib.hid h); exact .inr h) with h8 | h8
              · have t8 : ¬ 0 < pos := by have := h8.out; omega
                go_wp2_with fail
                go_ret
                exact ⟨by rw [HB.out]; rfl, (Below.refl _ _).alloc (Nat.le_refl _) _⟩
              · have t8 : decide ((0 : Int) < (pos : Int)) = true := by simp; omega
                go_wp2_with fail
                go_ret
                exact ⟨by rw [HB.out]; rfl, (Below.refl _ _).alloc (Nat.le_refl _) _⟩
          · obtain rfl : pos = s.length := by omega
            have hnx : ∀ ty, (Instr.next (.pointer (some ⟨w2.heap.size, 0, none⟩)) true ty).run Tryd.prog (w2.iter ⟨s.toArray⟩ s.length) = _ := fun ty => run_next_end w2 ⟨s.toArray⟩ s.length ty (by rw [hsz]; omega)
            have HB : Hid (nameB s = true) := Lib.hid (HAL.out HNT.out)
            clear hsz
            go_wp2_with fail
            go_ret
            exact ⟨by rw [HB.out]; rfl, (Below.refl _ _).alloc (Nat.le_refl _) _⟩
end Go.Proofs.YtmnjmegejaejlaaDoor
