/-
  WALK: slices.stableCmpFunc and slices.SortStableFunc at numbers.
-/
import Derived.Test.YtccpelfnkjckiaaDoorStabN
namespace Go.Proofs.YtccpelfnkjckiaaDoor
open Go.RowKit Go.Sort Go.Lib

section
variable {α : Type} [Inhabited α] {rk : α → Nat} {cf : α → α → Int} {w0 w : World} {blk off cap g : Nat} {cb : Array Value} {d0 d : Array α}

theorem insertion_any (h : CmpOk cf rk) (a b : Nat) (eg : ∀ args w, (callFunc g args).run Tryd.prog w = .ok (.enter g args) w) (hcmp : CmpLays1 Tryd.prog g cb (encK rk) cf blk off d0.size w0)
    (R : Row1 (encK rk) w0 blk off d0) (hs : d0.size = d.size) (S : SW (encK rk) w0 blk off d w) (hab : a ≤ b) (hb : b ≤ d.size) (hsz : d.size < 4611686018427387904) (hco : Coh cf rk a b d) :
    Calls Tryd.prog 69 #[.slice (some ⟨blk, off, none⟩) d.size cap, .int .i64 a, .int .i64 b, .func (.func g) #[] cb] w (StRet rk w0 blk off a b d fun d' => SrtK cf rk a b d') := by
  refine (Tryd.insertionSortCmpFunc_s (encK rk) cf g cb blk off cap a b d0 d w0 w eg hcmp R hs S hab hb hsz).mono ?_
  rintro e w' ⟨rfl, hS⟩
  have := ins_srt h hco hab hb
  exact ⟨rfl, _, hS, this.1, this.2⟩

set_option maxRecDepth 100000 in
set_option maxHeartbeats 8000000 in
theorem stable_any (h : CmpOk cf rk) (eg : ∀ args w, (callFunc g args).run Tryd.prog w = .ok (.enter g args) w) (hcmp : CmpLays1 Tryd.prog g cb (encK rk) cf blk off d0.size w0)
    (R : Row1 (encK rk) w0 blk off d0) (hs : d0.size = d.size) (S : SW (encK rk) w0 blk off d w) (hsz : d.size ≤ 140737488355328) (hco : Coh cf rk 0 d.size d) :
    Calls Tryd.prog 61 #[.slice (some ⟨blk, off, none⟩) d.size cap, .int .i64 d.size, .func (.func g) #[] cb] w (StRet rk w0 blk off 0 d.size d fun d' => SrtK cf rk 0 d.size d') := by
  have S0 : Aside (SW (encK rk) w0 blk off d w) := S
  have HS := Lib.hid hs
  have HC : Aside (CmpLays1 Tryd.prog g cb (encK rk) cf blk off d0.size w0) := hcmp
  have HCO : Aside (Coh cf rk 0 d.size d) := hco
  have HOK : Aside (CmpOk cf rk) := h
  have HEG : Aside (∀ args w, (callFunc g args).run Tryd.prog w = .ok (.enter g args) w) := eg
  clear S hs hcmp hco h eg
  go_enter Tryd.func61, Tryd.ntmps61
  go_wp2
  go_loopg [7, 8] d.size (fun g1 va vb wr => ∃ (T A : Nat) (dk : Array α), va = .int .i64 A ∧ vb = .int .i64 ((A + 20 : Nat) : Int) ∧ Hid (A = T * 20) ∧ A ≤ d.size ∧ d.size - A ≤ g1 ∧ Aside (SW (encK rk) w0 blk off dk wr) ∧ Hid (dk.size = d.size) ∧ Hid (PermIn 0 d.size d dk) ∧ Hid (Coh cf rk 0 d.size dk) ∧ Hid (DoneS cf rk 20 A dk))
  case atStart => exact ⟨0, 0, d, rfl, rfl, Lib.hid rfl, by omega, by omega, S0, Lib.hid rfl, Lib.hid (permIn_refl _ _ _), Lib.hid HCO.out, Lib.hid (DoneS.zero (by omega) _)⟩
  case round =>
    clear S0
    obtain ⟨T, A, dk, rfl, rfl, HT, hA, hg1, S1, HZ, HP, HCK, HD⟩ := hrel
    by_cases hlt : A + 20 ≤ d.size
    · have t1 : decide (A + 20 ≤ d.size) = true := by simpa using hlt
      go_wp2_with fail
      have hz := HZ.out
      have HK := insertion_any (cap := cap) HOK.out A (A + 20) HEG.out HC.out R (HS.out.trans hz.symm) S1.out (by omega) (by omega) (by omega) (HCK.out.mono (by omega) (by omega))
      rw [hz] at HK
      clear hz
      refine HK.mono ?_
      clear HK S1
      rintro e w1 ⟨rfl, d1, S2, hp2, hr2⟩
      have S2 : Aside (SW (encK rk) w0 blk off d1 w1) := S2
      have H2 : Hid (PermIn A (A + 20) dk d1 ∧ SrtK cf rk A (A + 20) d1) := ⟨hp2, hr2⟩
      clear hp2 hr2
      go_wp2
      go_roundg (d.size - (A + 20))
      case measure => omega
      case rel =>
        have hz := HZ.out
        have hT := HT.out
        have hz1 : d1.size = dk.size := H2.out.1.1
        have hd := HD.out
        have h2 := H2.out
        subst hT
        refine ⟨T + 1, T * 20 + 20, d1, rfl, by go_num, Lib.hid (by omega), by omega, by omega, S2, Lib.hid (hz1.trans hz), Lib.hid (permIn_trans _ _ _ _ _ HP.out (permIn_mono dk d1 _ _ 0 d.size (by omega) (by omega) (by omega) h2.1)), Lib.hid (HCK.out.part h2.1 h2.2 (by omega) (by omega) (by omega)), Lib.hid ?_⟩
        have := hd.step h2.1 h2.2 (by omega)
        rwa [Nat.succ_mul] at this
    · have t1 : decide (A + 20 ≤ d.size) = false := by simpa using hlt
      go_wp2_with fail
      have hz := HZ.out
      have HK := insertion_any (cap := cap) HOK.out A d.size HEG.out HC.out R (HS.out.trans hz.symm) S1.out (by omega) (by omega) (by omega) (HCK.out.mono (by omega) (by omega))
      rw [hz] at HK
      clear hz
      refine HK.mono ?_
      clear HK S1
      rintro e w1 ⟨rfl, d1, S2, hp2, hr2⟩
      have S2 : Aside (SW (encK rk) w0 blk off d1 w1) := S2
      have hz := HZ.out
      have hT := HT.out
      have hz1 : d1.size = dk.size := hp2.1
      have HZ1 : Hid (d1.size = d.size) := Lib.hid (hz1.trans hz)
      have HP1 : Hid (PermIn 0 d.size d d1) := Lib.hid (permIn_trans _ _ _ _ _ HP.out (permIn_mono dk d1 A d.size 0 d.size (by omega) (by omega) (by omega) hp2))
      have HC1 : Hid (Coh cf rk 0 d.size d1) := Lib.hid (HCK.out.part hp2 hr2 (by omega) (by omega) (by omega))
      have HB1 : Hid (BlkS cf rk 20 0 d.size d1) := Lib.hid (by
        have hd : DoneS cf rk 20 A d1 := fun t ht => (HD.out t ht).congr fun i _ i2 => hp2.2.1 i (.inl (by omega))
        subst hT
        exact hd.blocks hr2 (by omega))
      clear hp2 hr2 hz hT hz1 HZ HP HCK HD HT hg1 hlt t1
      go_wp2_with fail
      go_loopg [6] d.size (fun g2 vs wr => ∃ (s : Nat) (dk : Array α), vs = .int .i64 s ∧ 20 ≤ s ∧ s ≤ 562949953421312 ∧ d.size - s ≤ g2 ∧ Aside (SW (encK rk) w0 blk off dk wr) ∧ Hid (dk.size = d.size) ∧ Hid (PermIn 0 d.size d dk) ∧ Hid (Coh cf rk 0 d.size dk) ∧ Hid (BlkS cf rk s 0 d.size dk))
      case atStart => exact ⟨20, d1, rfl, by omega, by omega, by omega, S2, HZ1, HP1, HC1, HB1⟩
      case round =>
        clear S2 HZ1 HP1 HC1 HB1
        obtain ⟨s, dk, rfl, hs20, hsm, hg2, S1, HZ, HP, HCK, HB⟩ := hrel
        by_cases hlt : s < d.size
        · have t1 : decide (s < d.size) = true := by simpa using hlt
          go_wp2_with fail
          obtain ⟨wo, rfl⟩ : ∃ wo : World, wo = wr := ⟨_, rfl⟩
          go_loopg [7, 8] d.size (fun g3 va vb wr => ∃ (T A B : Nat) (dj : Array α), va = .int .i64 A ∧ vb = .int .i64 B ∧ Hid (B = A + 2 * s) ∧ Hid (A = T * (2 * s)) ∧ A ≤ d.size ∧ d.size - A ≤ g3 ∧ Aside (SW (encK rk) w0 blk off dj wr) ∧ Hid (dj.size = d.size) ∧ Hid (PermIn 0 d.size d dj) ∧ Hid (Coh cf rk 0 d.size dj) ∧ Hid (DoneS cf rk (2 * s) A dj) ∧ Hid (BlkS cf rk s A d.size dj))
          case atStart => exact ⟨0, 0, 2 * s, dk, rfl, by first | rfl | go_num | (congr 1; omega), Lib.hid (by omega), Lib.hid (by omega), by omega, by omega, S1, HZ, HP, HCK, Lib.hid (DoneS.zero (by omega) _), HB⟩
          case round =>
            clear S1 HZ HP HCK HB
            obtain ⟨T, A, B, dj, rfl, rfl, HBE, HT, hA, hg3, S1, HZ, HP, HCK, HD, HB⟩ := hrel
            have hBB : B ≤ A + 2 * s ∧ A + 2 * s ≤ B := by have := HBE.out; omega
            obtain ⟨M, hM⟩ : ∃ M, M = A + s := ⟨_, rfl⟩
            have ez : (A : Int) + s = M := by omega
            have hMM : M ≤ A + s ∧ A + s ≤ M := by omega
            have HM : Hid (M = A + s) := hM
            clear hM
            by_cases hl2 : B ≤ d.size
            · have t2 : decide (B ≤ d.size) = true := by simpa using hl2
              go_wp2_with fail
              have hz := HZ.out
              have b1 := HB.out.first
              have b2 := HB.out.second
              rw [Nat.min_eq_right (by omega)] at b1 b2
              rw [← HBE.out] at b2
              rw [← HM.out] at b1 b2
              have HK := symMerge_any (cap := cap) HOK.out HEG.out HC.out R (by have := HS.out; omega) (d.size + 1) A M B dj wr (by omega) (HS.out.trans hz.symm) S1.out (by omega) (by omega) (by omega) b1 b2 (HCK.out.mono (by omega) (by omega))
              rw [hz] at HK
              clear hz b1 b2
              refine HK.mono ?_
              clear HK S1
              rintro e w1 ⟨rfl, d1, S2, hp2, hr2⟩
              have S2 : Aside (SW (encK rk) w0 blk off d1 w1) := S2
              have H2 : Hid (PermIn A B dj d1 ∧ SrtK cf rk A B d1) := ⟨hp2, hr2⟩
              clear hp2 hr2
              go_wp2
              go_roundg (d.size - B)
              case measure => omega
              case rel =>
                have hz := HZ.out
                have hT := HT.out
                have h2 := H2.out
                have hz1 : d1.size = dj.size := h2.1.1
                have hB := HBE.out
                subst hB
                refine ⟨T + 1, A + 2 * s, A + 2 * s + 2 * s, d1, by first | rfl | go_num | (congr 1; omega), by first | rfl | go_num | (congr 1; omega), Lib.hid rfl, Lib.hid (by rw [Nat.succ_mul T (2 * s), ← hT]), by omega, by omega, S2, Lib.hid (hz1.trans hz), Lib.hid (permIn_trans _ _ _ _ _ HP.out (permIn_mono dj d1 _ _ 0 d.size (by omega) (by omega) (by omega) h2.1)), Lib.hid (HCK.out.part h2.1 h2.2 (by omega) (by omega) (by omega)), Lib.hid ?_, Lib.hid (HB.out.step h2.1)⟩
                have hd := HD.out
                rw [hT] at hd h2 ⊢
                have := hd.step h2.1 h2.2 (by omega)
                rwa [Nat.succ_mul T (2 * s)] at this
            · have t2 : decide (B ≤ d.size) = false := by simpa using hl2
              have HFIN : Aside (∀ d1 : Array α, PermIn A d.size dj d1 → SrtK cf rk A d.size d1 → BlkS cf rk (2 * s) 0 d.size d1) := fun d1 hp2 hr2 => by
                have hd : DoneS cf rk (2 * s) A d1 := fun t ht => (HD.out t ht).congr fun i _ i2 => hp2.2.1 i (.inl (by omega))
                have hT := HT.out
                rw [hT] at hd hr2
                exact hd.blocks hr2 (by omega)
              by_cases hl3 : M < d.size
              · have t3 : decide (M < d.size) = true := by simpa using hl3
                go_wp2_with fail
                have hz := HZ.out
                have b1 := HB.out.first
                have b2 := HB.out.second
                rw [Nat.min_eq_right (by omega)] at b1
                rw [Nat.min_eq_left (by omega)] at b2
                rw [← HM.out] at b1 b2
                have HK := symMerge_any (cap := cap) HOK.out HEG.out HC.out R (by have := HS.out; omega) (d.size + 1) A M d.size dj wr (by omega) (HS.out.trans hz.symm) S1.out (by omega) (by omega) (by omega) b1 b2 (HCK.out.mono (by omega) (by omega))
                rw [hz] at HK
                clear hz b1 b2
                refine HK.mono ?_
                clear HK S1
                rintro e w1 ⟨rfl, d1, S2, hp2, hr2⟩
                have S2 : Aside (SW (encK rk) w0 blk off d1 w1) := S2
                have H2 : Hid (PermIn A d.size dj d1 ∧ SrtK cf rk A d.size d1) := ⟨hp2, hr2⟩
                clear hp2 hr2
                go_wp2
                go_roundg (d.size - 2 * s)
                case measure => omega
                case rel =>
                  have hz := HZ.out
                  have h2 := H2.out
                  have hz1 : d1.size = dj.size := h2.1.1
                  exact ⟨2 * s, d1, by first | rfl | go_num | (congr 1; omega), by omega, by omega, by omega, S2, Lib.hid (hz1.trans hz), Lib.hid (permIn_trans _ _ _ _ _ HP.out (permIn_mono dj d1 _ _ 0 d.size (by omega) (by omega) (by omega) h2.1)), Lib.hid (HCK.out.part h2.1 h2.2 (by omega) (by omega) (by omega)), Lib.hid (HFIN.out d1 h2.1 h2.2)⟩
              · have t3 : decide (M < d.size) = false := by simpa using hl3
                have H2 : Hid (SrtK cf rk A d.size dj) := Lib.hid (by
                  have b1 := HB.out.first
                  rwa [Nat.min_eq_left (by omega)] at b1)
                go_wp2
                go_roundg (d.size - 2 * s)
                case measure => omega
                case rel => exact ⟨2 * s, dj, by first | rfl | go_num | (congr 1; omega), by omega, by omega, by omega, S1, HZ, HP, HCK, Lib.hid (HFIN.out dj (permIn_refl _ _ _) H2.out)⟩
        · have t1 : decide (s < d.size) = false := by simpa using hlt
          have H2 : Hid (SrtK cf rk 0 d.size dk) := Lib.hid (by
            have b1 := HB.out.first
            rwa [Nat.min_eq_left (by omega)] at b1)
          go_wp2
          go_end0
          exact ⟨rfl, dk, S1, HP.out, H2.out⟩

set_option maxRecDepth 100000 in
theorem sortStable_any (h : CmpOk cf rk) (eg : ∀ args w, (callFunc g args).run Tryd.prog w = .ok (.enter g args) w) (hcmp : CmpLays1 Tryd.prog g cb (encK rk) cf blk off d.size w)
    (R : Row1 (encK rk) w blk off d) (hsz : d.size ≤ 140737488355328) (hco : Coh cf rk 0 d.size d) :
    Calls Tryd.prog 41 #[.slice (some ⟨blk, off, none⟩) d.size cap, .func (.func g) #[] cb] w (StRet rk w blk off 0 d.size d fun d' => SrtK cf rk 0 d.size d') := by
  have HK := stable_any (cap := cap) h eg hcmp R rfl (SW.start R.hH) hsz hco
  have HK := Lib.hid HK
  clear hcmp h eg hco
  go_enter Tryd.func41, Tryd.ntmps41
  go_wp2_with fail
  refine HK.out.mono ?_
  clear HK
  rintro e w1 ⟨rfl, hr⟩
  have HR := Lib.hid hr
  clear hr
  go_wp2
  go_end0
  exact ⟨rfl, HR.out⟩
end
end Go.Proofs.YtccpelfnkjckiaaDoor
