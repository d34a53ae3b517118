/-
  WALK: slices.symMergeCmpFunc at numbers: the general case and the recursion.
-/
import Derived.Test.YtccpelfnkjckiaaDoorStabM
namespace Go.Proofs.YtccpelfnkjckiaaDoor
open Go.RowKit Go.Sort Go.Lib

section
variable {α : Type} [Inhabited α] {rk : α → Nat} {cf : α → α → Int} {w0 w : World} {blk off cap g : Nat} {cb : Array Value} {d0 d : Array α}

/-- Behind the change of places: four ascending parts, the first two less than the others. -/
def Mid1 (cf : α → α → Int) (rk : α → Nat) (a c mid e b : Nat) (d : Array α) : Prop :=
  SrtK cf rk a c d ∧ SrtK cf rk c mid d ∧ SrtK cf rk mid e d ∧ SrtK cf rk e b d ∧ (∀ p q, a ≤ p → p < mid → mid ≤ q → q < b → ltK cf rk d[p]! d[q]! = true) ∧ Coh cf rk a b d
theorem mid1_of (h : CmpOk cf rk) {a m b mid c e : Nat} {d d' : Array α} (hac : a ≤ c) (hcm : c ≤ m) (hme : m ≤ e) (heb : e ≤ b) (he : e + c = mid + m)
    (h1 : SrtK cf rk a m d) (h2 : SrtK cf rk m b d) (hco : Coh cf rk a b d)
    (hs1 : m ≤ c ∨ e ≤ m ∨ cf d[mid + m - 1 - c]! d[c]! < 0) (hs2 : c ≤ a ∨ b ≤ e ∨ 0 ≤ cf d[mid + m - c]! d[c - 1]!)
    (hr : ∀ k, d'[k]! = d[rotI c m e k]!) : Mid1 cf rk a c mid e b d' := by
  have hlt := search_lt h he h1 h2 hac heb hs1
  have hle := search_le h he h1 h2 hco hcm hme (by omega)
  have hcoh := rot_coh hcm hme hac heb hr hco hlt
  obtain ⟨q1, q2, q3, q4, q5⟩ := rot_parts hcm hme hac heb hr h1 h2 hlt hle
  have em : c + (e - m) = mid := by omega
  rw [em] at q2 q3 q5
  exact ⟨q1, q2, q3, q4, q5, hcoh⟩
theorem Mid1.right {a c mid e b : Nat} {d d' : Array α} (h : Mid1 cf rk a c mid e b d) (hp : PermIn a mid d d') (hm : a ≤ mid) (he : mid ≤ e) : SrtK cf rk mid e d' ∧ SrtK cf rk e b d' ∧ Coh cf rk mid b d' := by
  have out : ∀ i, mid ≤ i → d'[i]! = d[i]! := fun i hi => hp.2.1 i (.inr hi)
  exact ⟨h.2.2.1.congr fun i i1 _ => out i i1, h.2.2.2.1.congr fun i i1 _ => out i (by omega), fun p q i1 i2 i3 => by rw [out p i1, out q (by omega)]; exact h.2.2.2.2.2 p q (by omega) i2 i3⟩

/-- The callee's contract for smaller parts. -/
def SymIH (cf : α → α → Int) (rk : α → Nat) (w0 : World) (blk off cap g : Nat) (cb : Array Value) (d0 : Array α) (N : Nat) : Prop :=
  ∀ (a m b : Nat) (d : Array α) (w : World), b - a < N → d0.size = d.size → SW (encK rk) w0 blk off d w → a < m → m < b → b ≤ d.size → SrtK cf rk a m d → SrtK cf rk m b d → Coh cf rk a b d →
    Calls Tryd.prog 70 #[.slice (some ⟨blk, off, none⟩) d.size cap, .int .i64 a, .int .i64 m, .int .i64 b, .func (.func g) #[] cb] w (StRet rk w0 blk off a b d fun d' => SrtK cf rk a b d')

set_option maxRecDepth 100000 in
set_option maxHeartbeats 8000000 in
theorem sym_main (a m b : Nat) (ham : a + 1 < m) (hmb : m + 1 < b) (h : CmpOk cf rk) (eg : ∀ args w, (callFunc g args).run Tryd.prog w = .ok (.enter g args) w) (hcmp : CmpLays1 Tryd.prog g cb (encK rk) cf blk off d0.size w0)
    (R : Row1 (encK rk) w0 blk off d0) (hih : SymIH cf rk w0 blk off cap g cb d0 (b - a)) (hs : d0.size = d.size) (S : SW (encK rk) w0 blk off d w) (hb : b ≤ d.size) (hsz : d.size < 4611686018427387904)
    (hs1 : SrtK cf rk a m d) (hs2 : SrtK cf rk m b d) (hco : Coh cf rk a b d) :
    Calls Tryd.prog 70 #[.slice (some ⟨blk, off, none⟩) d.size cap, .int .i64 a, .int .i64 m, .int .i64 b, .func (.func g) #[] cb] w (StRet rk w0 blk off a b d fun d' => SrtK cf rk a b d') := by
  have mixed : Tryd.prog.follows .mixedOrders = true := by kernel_rfl
  have S0 : Aside (SW (encK rk) w0 blk off d w) := S
  have HS := Lib.hid hs
  have HC : Aside (CmpLays1 Tryd.prog g cb (encK rk) cf blk off d0.size w0) := hcmp
  have HSR : Aside (SrtK cf rk a m d ∧ SrtK cf rk m b d ∧ Coh cf rk a b d) := ⟨hs1, hs2, hco⟩
  have HOK : Aside (CmpOk cf rk) := h
  have HIH : Aside (SymIH cf rk w0 blk off cap g cb d0 (b - a)) := hih
  clear S hs hcmp hs1 hs2 hco h hih
  have e0 : ((m : Int) - a == 1) = false := by simp; omega
  have e1 : ((b : Int) - m == 1) = false := by simp; omega
  obtain ⟨mid, hmid⟩ : ∃ mid, mid = (a + b) / 2 := ⟨_, rfl⟩
  have e2 : ((a : Int) + b) / 2 = mid := by omega
  have hmid1 : a < mid := by omega
  have hmid2 : mid < b := by omega
  have HMID : Hid (mid = (a + b) / 2) := hmid
  clear hmid
  obtain ⟨n, hn⟩ : ∃ n, n = mid + m := ⟨_, rfl⟩
  have e3 : (mid : Int) + m = n := by omega
  obtain ⟨np, hnp⟩ : ∃ np, np + 1 = n := ⟨n - 1, by omega⟩
  have e4 : (n : Int) - 1 = np := by omega
  have HN : Hid (n = mid + m ∧ np + 1 = n) := ⟨hn, hnp⟩
  clear hn hnp
  by_cases hgt : mid < m
  · obtain ⟨s0, hs0⟩ : ∃ s0, s0 + b = n := ⟨n - b, by have := HN.out; have := HMID.out; omega⟩
    have e5 : (n : Int) - b = s0 := by omega
    have HQ : Hid (a ≤ s0 ∧ s0 ≤ mid ∧ mid ≤ m ∧ n ≤ s0 + b ∧ (s0 ≤ a ∨ b + s0 ≤ n) ∧ (m ≤ mid ∨ n ≤ m + mid)) := Lib.hid (by have := HN.out; have := HMID.out; omega)
    clear hs0
    have t0 : decide (mid < m) = true := by simp; omega
    go_enter Tryd.func70, Tryd.ntmps70
    go_wp2
    clear t0
    go_loopg [20, 21] b (fun g1 vi vj wr => ∃ (i j : Nat), vi = .int .i64 i ∧ vj = .int .i64 j ∧ s0 ≤ i ∧ i ≤ j ∧ j ≤ mid ∧ j - i ≤ g1 ∧ Aside (SW (encK rk) w0 blk off d wr) ∧ Hid (i ≤ s0 ∨ 0 ≤ cf d[n - i]! d[i - 1]!) ∧ Hid (mid ≤ j ∨ cf d[np - j]! d[j]! < 0))
    case atStart => exact ⟨s0, mid, rfl, rfl, by omega, by have := HQ.out; omega, by omega, by have := HQ.out; omega, S0, Lib.hid (.inl (Nat.le_refl _)), Lib.hid (.inl (Nat.le_refl _))⟩
    case round =>
      clear S0
      obtain ⟨i, j, rfl, rfl, hi, hij, hjb, hg1, S1, HI, HJ⟩ := hrel
      by_cases hlt : i < j
      · obtain ⟨c, hc0⟩ : ∃ c, c = (i + j) / 2 := ⟨_, rfl⟩
        have em : ((i : Int) + j) / 2 = c := by omega
        have hm1 : i ≤ c := by omega
        have hm2 : c < j := by omega
        clear hc0
        obtain ⟨pc, hpc⟩ : ∃ pc, pc + c = np := ⟨np - c, by have := HQ.out; have := HN.out; omega⟩
        have ep : (np : Int) - c = pc := by omega
        have hpd : pc < d.size := by have := HQ.out; have := HN.out; omega
        have hcd : c < d.size := by have := HQ.out; omega
        have HPC : Hid (pc + c = np) := hpc
        clear hpc
        obtain ⟨x, hx⟩ : ∃ x, x = d[pc]! := ⟨_, rfl⟩
        obtain ⟨y, hy⟩ : ∃ y, y = d[c]! := ⟨_, rfl⟩
        have l1 := S1.out.cl R HS.out.symm pc hpd
        have l2 := S1.out.cl R HS.out.symm c hcd
        have hc := S1.out.cmp HC.out HS.out.symm x y
        rw [← hx] at l1
        rw [← hy] at l2
        unfold encK at l1 l2 hc
        have HXY : Hid (x = d[pc]! ∧ y = d[c]!) := ⟨hx, hy⟩
        clear hx hy
        have b1 : (pc : Int) < d.size := by omega
        have b2 : (c : Int) < d.size := by omega
        have r2 : IntKind.i64.wrap (pc : Int) = pc := by rw [IntKind.wrap_i64]; omega
        have r3 : ((pc : Int)).toNat = pc := by omega
        by_cases hv : cf x y < 0
        · have hd : decide (cf x y < 0) = true := decide_eq_true hv
          go_wp2_with fail
          go_quiet_grown (first | (go_at_fn g; refine Calls.grown_of (hc _ _)))
          have S2 : Aside (SW (encK rk) w0 blk off d (grow (wr.drewN nq) osq)) := S1.out.grown nq osq
          clear l1 l2 hc S1
          generalize grow (wr.drewN nq) osq = w2 at S2 ⊢
          clear nq osq
          have HV := Lib.hid hv
          clear hv
          go_wp2
          go_roundg (c - i)
          case measure => omega
          case rel => exact ⟨i, c, rfl, rfl, hi, by omega, by omega, by omega, S2, HI, Lib.hid (.inr (by rw [show np - c = pc by have := HPC.out; omega, ← HXY.out.1, ← HXY.out.2]; exact HV.out))⟩
        · have hd : decide (cf x y < 0) = false := decide_eq_false hv
          go_wp2_with fail
          go_quiet_grown (first | (go_at_fn g; refine Calls.grown_of (hc _ _)))
          have S2 : Aside (SW (encK rk) w0 blk off d (grow (wr.drewN nq) osq)) := S1.out.grown nq osq
          clear l1 l2 hc S1
          generalize grow (wr.drewN nq) osq = w2 at S2 ⊢
          clear nq osq
          have HV : Hid (0 ≤ cf x y) := Lib.hid (by omega)
          clear hv
          go_wp2
          go_roundg (j - (c + 1))
          case measure => omega
          case rel => exact ⟨c + 1, j, by go_num, rfl, by omega, by omega, hjb, by omega, S2, Lib.hid (.inr (by rw [Nat.add_sub_cancel, show n - (c + 1) = pc by have := HPC.out; have := HN.out; omega, ← HXY.out.1, ← HXY.out.2]; exact HV.out)), HJ⟩
      · obtain rfl : i = j := by omega
        obtain ⟨e, hee⟩ : ∃ e, e + i = n := ⟨n - i, by have := HQ.out; have := HN.out; omega⟩
        have e6 : (n : Int) - i = e := by omega
        have HE : Hid (e + i = mid + m ∧ a ≤ i ∧ i ≤ m ∧ i ≤ mid ∧ m ≤ e ∧ mid ≤ e ∧ e ≤ b) := Lib.hid (by have := HQ.out; have := HN.out; omega)
        have HMI : Aside (∀ d1 : Array α, (∀ k, d1[k]! = d[rotI i m e k]!) → Mid1 cf rk a i mid e b d1) := fun d1 hr => by
          have hE := HE.out
          have hN := HN.out
          have hQ := HQ.out
          refine mid1_of HOK.out hE.2.1 hE.2.2.1 hE.2.2.2.2.1 hE.2.2.2.2.2.2 hE.1 HSR.out.1 HSR.out.2.1 HSR.out.2.2 ?_ ?_ hr
          · rcases HJ.out with q | q
            · omega
            · rw [show mid + m - 1 - i = np - i by omega]; exact .inr (.inr q)
          · rcases HI.out with q | q
            · omega
            · rw [show mid + m - i = n - i by omega]; exact .inr (.inr q)
        have HED := Lib.hid hee
        clear hee
        by_cases g1 : i < m ∧ m < e
        · obtain ⟨g1a, g1b⟩ := g1
          have u1 : decide (i < m) = true := by simp; omega
          have u2 : decide (m < e) = true := by simp; omega
          go_wp2_with fail
          have HK := rotate_any (cap := cap) i m e (.func (.func g) #[] cb) R HS.out S1.out g1a g1b (by have := HE.out; omega) hsz
          refine HK.mono ?_
          clear HK S1
          rintro e' w2 ⟨rfl, d1, S2, hp2, hr2⟩
          have S2 : Aside (SW (encK rk) w0 blk off d1 w2) := S2
          have HM1 : Aside (Mid1 cf rk a i mid e b d1) := HMI.out d1 hr2
          have H1 : Hid (PermIn i e d d1 ∧ True) := ⟨hp2, trivial⟩
          have HZ1 : Hid (d1.size = d.size) := Lib.hid hp2.1
          clear hp2 hr2
          by_cases g2 : a < i ∧ i < mid
          · obtain ⟨g2a, g2b⟩ := g2
            have u1 : decide (a < i) = true := by simp; omega
            have u2 : decide (i < mid) = true := by simp; omega
            go_wp2_with fail
            have hz := HZ1.out
            have HK := HIH.out a i mid d1 _ (by omega) (HS.out.trans hz.symm) S2.out g2a g2b (by omega) HM1.out.1 HM1.out.2.1 (HM1.out.2.2.2.2.2.mono (Nat.le_refl _) (by omega))
            rw [hz] at HK
            clear hz
            refine HK.mono ?_
            clear HK S2
            rintro e' w3 ⟨rfl, d2, S3, hp3, hr3⟩
            have S3 : Aside (SW (encK rk) w0 blk off d2 w3) := S3
            have H2 : Hid (PermIn a mid d1 d2 ∧ SrtK cf rk a mid d2) := ⟨hp3, hr3⟩
            have HZ2 : Hid (d2.size = d.size) := Lib.hid (hp3.1.trans HZ1.out)
            clear hp3 hr3
            by_cases g3 : mid < e ∧ e < b
            · obtain ⟨g3a, g3b⟩ := g3
              have u1 : decide (mid < e) = true := by simp; omega
              have u2 : decide (e < b) = true := by simp; omega
              go_wp2_with fail
              obtain ⟨f1, f2, f3⟩ := (HM1.out).right H2.out.1 (by omega) (by omega)
              have hz := HZ2.out
              have HK := HIH.out mid e b d2 _ (by omega) (HS.out.trans hz.symm) S3.out g3a g3b (by omega) f1 f2 f3
              rw [hz] at HK
              clear hz f1 f2 f3
              refine HK.mono ?_
              clear HK S3
              rintro e' w4 ⟨rfl, d3, S4, hp4, hr4⟩
              have S4 : Aside (SW (encK rk) w0 blk off d3 w4) := S4
              have H4 : Hid (PermIn mid b d2 d3 ∧ SrtK cf rk mid b d3) := ⟨hp4, hr4⟩
              clear hp4 hr4
              go_wp2
              go_end0
              have hz1 := H1.out.1.1
              have hE := HE.out
              obtain ⟨q1, q2⟩ := two_parts (by omega) (by omega) (by omega) HM1.out.2.2.2.2.1 H2.out.1 H2.out.2 H4.out.1 H4.out.2
              exact ⟨rfl, d3, S4, permIn_trans _ _ _ _ _ (permIn_mono d d1 i e a b hE.2.1 hE.2.2.2.2.2.2 hb H1.out.1) q1, q2⟩
            · have hE := HE.out
              obtain ⟨f1, f2, f3⟩ := (HM1.out).right H2.out.1 (by omega) (by omega)
              have HR3 : Hid (SrtK cf rk mid b d2) := Lib.hid (srt_join f1 f2 (by omega))
              clear f1 f2 f3 hE
              have HG3 : Hid (¬ (mid < e ∧ e < b)) := g3
              clear g3
              by_cases g4 : mid < e
              · have u1 : decide (mid < e) = true := by simp; omega
                have u2 : decide (e < b) = false := by have := HG3.out; simp; omega
                go_wp2
                go_end0
                have hz1 := H1.out.1.1
                have hE := HE.out
                obtain ⟨q1, q2⟩ := two_parts (by omega) (by omega) (by omega) HM1.out.2.2.2.2.1 H2.out.1 H2.out.2 (permIn_refl d2 mid b) HR3.out
                exact ⟨rfl, d2, S3, permIn_trans _ _ _ _ _ (permIn_mono d d1 i e a b hE.2.1 hE.2.2.2.2.2.2 hb H1.out.1) q1, q2⟩
              · have u1 : decide (mid < e) = false := by simp; omega
                go_wp2
                go_end0
                have hz1 := H1.out.1.1
                have hE := HE.out
                obtain ⟨q1, q2⟩ := two_parts (by omega) (by omega) (by omega) HM1.out.2.2.2.2.1 H2.out.1 H2.out.2 (permIn_refl d2 mid b) HR3.out
                exact ⟨rfl, d2, S3, permIn_trans _ _ _ _ _ (permIn_mono d d1 i e a b hE.2.1 hE.2.2.2.2.2.2 hb H1.out.1) q1, q2⟩
          · have HG2 : Hid (¬ (a < i ∧ i < mid)) := g2
            clear g2
            by_cases g4 : a < i
            · have u1 : decide (a < i) = true := by simp; omega
              have u2 : decide (i < mid) = false := by have := HG2.out; simp; omega
              obtain ⟨d2, H2, HZ2, S3⟩ : ∃ d2, Hid (PermIn a mid d1 d2 ∧ SrtK cf rk a mid d2) ∧ Hid (d2.size = d.size) ∧ Aside (SW (encK rk) w0 blk off d2 w2) := ⟨d1, Lib.hid ⟨permIn_refl d1 a mid, srt_join HM1.out.1 HM1.out.2.1 (by have := HG2.out; have := HE.out; omega)⟩, HZ1, S2⟩
              clear S2
              by_cases g3 : mid < e ∧ e < b
              · obtain ⟨g3a, g3b⟩ := g3
                have u1 : decide (mid < e) = true := by simp; omega
                have u2 : decide (e < b) = true := by simp; omega
                go_wp2_with fail
                obtain ⟨f1, f2, f3⟩ := (HM1.out).right H2.out.1 (by omega) (by omega)
                have hz := HZ2.out
                have HK := HIH.out mid e b d2 _ (by omega) (HS.out.trans hz.symm) S3.out g3a g3b (by omega) f1 f2 f3
                rw [hz] at HK
                clear hz f1 f2 f3
                refine HK.mono ?_
                clear HK S3
                rintro e' w4 ⟨rfl, d3, S4, hp4, hr4⟩
                have S4 : Aside (SW (encK rk) w0 blk off d3 w4) := S4
                have H4 : Hid (PermIn mid b d2 d3 ∧ SrtK cf rk mid b d3) := ⟨hp4, hr4⟩
                clear hp4 hr4
                go_wp2
                go_end0
                have hz1 := H1.out.1.1
                have hE := HE.out
                obtain ⟨q1, q2⟩ := two_parts (by omega) (by omega) (by omega) HM1.out.2.2.2.2.1 H2.out.1 H2.out.2 H4.out.1 H4.out.2
                exact ⟨rfl, d3, S4, permIn_trans _ _ _ _ _ (permIn_mono d d1 i e a b hE.2.1 hE.2.2.2.2.2.2 hb H1.out.1) q1, q2⟩
              · have hE := HE.out
                obtain ⟨f1, f2, f3⟩ := (HM1.out).right H2.out.1 (by omega) (by omega)
                have HR3 : Hid (SrtK cf rk mid b d2) := Lib.hid (srt_join f1 f2 (by omega))
                clear f1 f2 f3 hE
                have HG3 : Hid (¬ (mid < e ∧ e < b)) := g3
                clear g3
                by_cases g4 : mid < e
                · have u1 : decide (mid < e) = true := by simp; omega
                  have u2 : decide (e < b) = false := by have := HG3.out; simp; omega
                  go_wp2
                  go_end0
                  have hz1 := H1.out.1.1
                  have hE := HE.out
                  obtain ⟨q1, q2⟩ := two_parts (by omega) (by omega) (by omega) HM1.out.2.2.2.2.1 H2.out.1 H2.out.2 (permIn_refl d2 mid b) HR3.out
                  exact ⟨rfl, d2, S3, permIn_trans _ _ _ _ _ (permIn_mono d d1 i e a b hE.2.1 hE.2.2.2.2.2.2 hb H1.out.1) q1, q2⟩
                · have u1 : decide (mid < e) = false := by simp; omega
                  go_wp2
                  go_end0
                  have hz1 := H1.out.1.1
                  have hE := HE.out
                  obtain ⟨q1, q2⟩ := two_parts (by omega) (by omega) (by omega) HM1.out.2.2.2.2.1 H2.out.1 H2.out.2 (permIn_refl d2 mid b) HR3.out
                  exact ⟨rfl, d2, S3, permIn_trans _ _ _ _ _ (permIn_mono d d1 i e a b hE.2.1 hE.2.2.2.2.2.2 hb H1.out.1) q1, q2⟩
            · have u1 : decide (a < i) = false := by simp; omega
              obtain ⟨d2, H2, HZ2, S3⟩ : ∃ d2, Hid (PermIn a mid d1 d2 ∧ SrtK cf rk a mid d2) ∧ Hid (d2.size = d.size) ∧ Aside (SW (encK rk) w0 blk off d2 w2) := ⟨d1, Lib.hid ⟨permIn_refl d1 a mid, srt_join HM1.out.1 HM1.out.2.1 (by have := HG2.out; have := HE.out; omega)⟩, HZ1, S2⟩
              clear S2
              by_cases g3 : mid < e ∧ e < b
              · obtain ⟨g3a, g3b⟩ := g3
                have u1 : decide (mid < e) = true := by simp; omega
                have u2 : decide (e < b) = true := by simp; omega
                go_wp2_with fail
                obtain ⟨f1, f2, f3⟩ := (HM1.out).right H2.out.1 (by omega) (by omega)
                have hz := HZ2.out
                have HK := HIH.out mid e b d2 _ (by omega) (HS.out.trans hz.symm) S3.out g3a g3b (by omega) f1 f2 f3
                rw [hz] at HK
                clear hz f1 f2 f3
                refine HK.mono ?_
                clear HK S3
                rintro e' w4 ⟨rfl, d3, S4, hp4, hr4⟩
                have S4 : Aside (SW (encK rk) w0 blk off d3 w4) := S4
                have H4 : Hid (PermIn mid b d2 d3 ∧ SrtK cf rk mid b d3) := ⟨hp4, hr4⟩
                clear hp4 hr4
                go_wp2
                go_end0
                have hz1 := H1.out.1.1
                have hE := HE.out
                obtain ⟨q1, q2⟩ := two_parts (by omega) (by omega) (by omega) HM1.out.2.2.2.2.1 H2.out.1 H2.out.2 H4.out.1 H4.out.2
                exact ⟨rfl, d3, S4, permIn_trans _ _ _ _ _ (permIn_mono d d1 i e a b hE.2.1 hE.2.2.2.2.2.2 hb H1.out.1) q1, q2⟩
              · have hE := HE.out
                obtain ⟨f1, f2, f3⟩ := (HM1.out).right H2.out.1 (by omega) (by omega)
                have HR3 : Hid (SrtK cf rk mid b d2) := Lib.hid (srt_join f1 f2 (by omega))
                clear f1 f2 f3 hE
                have HG3 : Hid (¬ (mid < e ∧ e < b)) := g3
                clear g3
                by_cases g4 : mid < e
                · have u1 : decide (mid < e) = true := by simp; omega
                  have u2 : decide (e < b) = false := by have := HG3.out; simp; omega
                  go_wp2
                  go_end0
                  have hz1 := H1.out.1.1
                  have hE := HE.out
                  obtain ⟨q1, q2⟩ := two_parts (by omega) (by omega) (by omega) HM1.out.2.2.2.2.1 H2.out.1 H2.out.2 (permIn_refl d2 mid b) HR3.out
                  exact ⟨rfl, d2, S3, permIn_trans _ _ _ _ _ (permIn_mono d d1 i e a b hE.2.1 hE.2.2.2.2.2.2 hb H1.out.1) q1, q2⟩
                · have u1 : decide (mid < e) = false := by simp; omega
                  go_wp2
                  go_end0
                  have hz1 := H1.out.1.1
                  have hE := HE.out
                  obtain ⟨q1, q2⟩ := two_parts (by omega) (by omega) (by omega) HM1.out.2.2.2.2.1 H2.out.1 H2.out.2 (permIn_refl d2 mid b) HR3.out
                  exact ⟨rfl, d2, S3, permIn_trans _ _ _ _ _ (permIn_mono d d1 i e a b hE.2.1 hE.2.2.2.2.2.2 hb H1.out.1) q1, q2⟩
        · have HG1 : Hid (¬ (i < m ∧ m < e)) := g1
          clear g1
          by_cases g4 : i < m
          · have u1 : decide (i < m) = true := by simp; omega
            have u2 : decide (m < e) = false := by have := HG1.out; simp; omega
            have hme : m = e := by have := HG1.out; have := HE.out; omega
            have HM1 : Aside (Mid1 cf rk a i mid e b d) := HMI.out d (fun k => by rw [hme, rotI_id i e k (by have := HE.out; omega)])
            obtain ⟨d1, H1, HM1, HZ1, S2⟩ : ∃ d1, Hid (PermIn i e d d1 ∧ True) ∧ Aside (Mid1 cf rk a i mid e b d1) ∧ Hid (d1.size = d.size) ∧ Aside (SW (encK rk) w0 blk off d1 wr) := ⟨d, Lib.hid ⟨permIn_refl d i e, trivial⟩, HM1, Lib.hid rfl, S1⟩
            clear S1 hme
            by_cases g2 : a < i ∧ i < mid
            · obtain ⟨g2a, g2b⟩ := g2
              have u1 : decide (a < i) = true := by simp; omega
              have u2 : decide (i < mid) = true := by simp; omega
              go_wp2_with fail
              have hz := HZ1.out
              have HK := HIH.out a i mid d1 _ (by omega) (HS.out.trans hz.symm) S2.out g2a g2b (by omega) HM1.out.1 HM1.out.2.1 (HM1.out.2.2.2.2.2.mono (Nat.le_refl _) (by omega))
              rw [hz] at HK
              clear hz
              refine HK.mono ?_
              clear HK S2
              rintro e' w3 ⟨rfl, d2, S3, hp3, hr3⟩
              have S3 : Aside (SW (encK rk) w0 blk off d2 w3) := S3
              have H2 : Hid (PermIn a mid d1 d2 ∧ SrtK cf rk a mid d2) := ⟨hp3, hr3⟩
              have HZ2 : Hid (d2.size = d.size) := Lib.hid (hp3.1.trans HZ1.out)
              clear hp3 hr3
              by_cases g3 : mid < e ∧ e < b
              · obtain ⟨g3a, g3b⟩ := g3
                have u1 : decide (mid < e) = true := by simp; omega
                have u2 : decide (e < b) = true := by simp; omega
                go_wp2_with fail
                obtain ⟨f1, f2, f3⟩ := (HM1.out).right H2.out.1 (by omega) (by omega)
                have hz := HZ2.out
                have HK := HIH.out mid e b d2 _ (by omega) (HS.out.trans hz.symm) S3.out g3a g3b (by omega) f1 f2 f3
                rw [hz] at HK
                clear hz f1 f2 f3
                refine HK.mono ?_
                clear HK S3
                rintro e' w4 ⟨rfl, d3, S4, hp4, hr4⟩
                have S4 : Aside (SW (encK rk) w0 blk off d3 w4) := S4
                have H4 : Hid (PermIn mid b d2 d3 ∧ SrtK cf rk mid b d3) := ⟨hp4, hr4⟩
                clear hp4 hr4
                go_wp2
                go_end0
                have hz1 := H1.out.1.1
                have hE := HE.out
                obtain ⟨q1, q2⟩ := two_parts (by omega) (by omega) (by omega) HM1.out.2.2.2.2.1 H2.out.1 H2.out.2 H4.out.1 H4.out.2
                exact ⟨rfl, d3, S4, permIn_trans _ _ _ _ _ (permIn_mono d d1 i e a b hE.2.1 hE.2.2.2.2.2.2 hb H1.out.1) q1, q2⟩
              · have hE := HE.out
                obtain ⟨f1, f2, f3⟩ := (HM1.out).right H2.out.1 (by omega) (by omega)
                have HR3 : Hid (SrtK cf rk mid b d2) := Lib.hid (srt_join f1 f2 (by omega))
                clear f1 f2 f3 hE
                have HG3 : Hid (¬ (mid < e ∧ e < b)) := g3
                clear g3
                by_cases g4 : mid < e
                · have u1 : decide (mid < e) = true := by simp; omega
                  have u2 : decide (e < b) = false := by have := HG3.out; simp; omega
                  go_wp2
                  go_end0
                  have hz1 := H1.out.1.1
                  have hE := HE.out
                  obtain ⟨q1, q2⟩ := two_parts (by omega) (by omega) (by omega) HM1.out.2.2.2.2.1 H2.out.1 H2.out.2 (permIn_refl d2 mid b) HR3.out
                  exact ⟨rfl, d2, S3, permIn_trans _ _ _ _ _ (permIn_mono d d1 i e a b hE.2.1 hE.2.2.2.2.2.2 hb H1.out.1) q1, q2⟩
                · have u1 : decide (mid < e) = false := by simp; omega
                  go_wp2
                  go_end0
                  have hz1 := H1.out.1.1
                  have hE := HE.out
                  obtain ⟨q1, q2⟩ := two_parts (by omega) (by omega) (by omega) HM1.out.2.2.2.2.1 H2.out.1 H2.out.2 (permIn_refl d2 mid b) HR3.out
                  exact ⟨rfl, d2, S3, permIn_trans _ _ _ _ _ (permIn_mono d d1 i e a b hE.2.1 hE.2.2.2.2.2.2 hb H1.out.1) q1, q2⟩
            · have HG2 : Hid (¬ (a < i ∧ i < mid)) := g2
              clear g2
              by_cases g4 : a < i
              · have u1 : decide (a < i) = true := by simp; omega
                have u2 : decide (i < mid) = false := by have := HG2.out; simp; omega
                obtain ⟨d2, H2, HZ2, S3⟩ : ∃ d2, Hid (PermIn a mid d1 d2 ∧ SrtK cf rk a mid d2) ∧ Hid (d2.size = d.size) ∧ Aside (SW (encK rk) w0 blk off d2 wr) := ⟨d1, Lib.hid ⟨permIn_refl d1 a mid, srt_join HM1.out.1 HM1.out.2.1 (by have := HG2.out; have := HE.out; omega)⟩, HZ1, S2⟩
                clear S2
                by_cases g3 : mid < e ∧ e < b
                · obtain ⟨g3a, g3b⟩ := g3
                  have u1 : decide (mid < e) = true := by simp; omega
                  have u2 : decide (e < b) = true := by simp; omega
                  go_wp2_with fail
                  obtain ⟨f1, f2, f3⟩ := (HM1.out).right H2.out.1 (by omega) (by omega)
                  have hz := HZ2.out
                  have HK := HIH.out mid e b d2 _ (by omega) (HS.out.trans hz.symm) S3.out g3a g3b (by omega) f1 f2 f3
                  rw [hz] at HK
                  clear hz f1 f2 f3
                  refine HK.mono ?_
                  clear HK S3
                  rintro e' w4 ⟨rfl, d3, S4, hp4, hr4⟩
                  have S4 : Aside (SW (encK rk) w0 blk off d3 w4) := S4
                  have H4 : Hid (PermIn mid b d2 d3 ∧ SrtK cf rk mid b d3) := ⟨hp4, hr4⟩
                  clear hp4 hr4
                  go_wp2
                  go_end0
                  have hz1 := H1.out.1.1
                  have hE := HE.out
                  obtain ⟨q1, q2⟩ := two_parts (by omega) (by omega) (by omega) HM1.out.2.2.2.2.1 H2.out.1 H2.out.2 H4.out.1 H4.out.2
                  exact ⟨rfl, d3, S4, permIn_trans _ _ _ _ _ (permIn_mono d d1 i e a b hE.2.1 hE.2.2.2.2.2.2 hb H1.out.1) q1, q2⟩
                · have hE := HE.out
                  obtain ⟨f1, f2, f3⟩ := (HM1.out).right H2.out.1 (by omega) (by omega)
                  have HR3 : Hid (SrtK cf rk mid b d2) := Lib.hid (srt_join f1 f2 (by omega))
                  clear f1 f2 f3 hE
                  have HG3 : Hid (¬ (mid < e ∧ e < b)) := g3
                  clear g3
                  by_cases g4 : mid < e
                  · have u1 : decide (mid < e) = true := by simp; omega
                    have u2 : decide (e < b) = false := by have := HG3.out; simp; omega
                    go_wp2
                    go_end0
                    have hz1 := H1.out.1.1
                    have hE := HE.out
                    obtain ⟨q1, q2⟩ := two_parts (by omega) (by omega) (by omega) HM1.out.2.2.2.2.1 H2.out.1 H2.out.2 (permIn_refl d2 mid b) HR3.out
                    exact ⟨rfl, d2, S3, permIn_trans _ _ _ _ _ (permIn_mono d d1 i e a b hE.2.1 hE.2.2.2.2.2.2 hb H1.out.1) q1, q2⟩
                  · have u1 : decide (mid < e) = false := by simp; omega
                    go_wp2
                    go_end0
                    have hz1 := H1.out.1.1
                    have hE := HE.out
                    obtain ⟨q1, q2⟩ := two_parts (by omega) (by omega) (by omega) HM1.out.2.2.2.2.1 H2.out.1 H2.out.2 (permIn_refl d2 mid b) HR3.out
                    exact ⟨rfl, d2, S3, permIn_trans _ _ _ _ _ (permIn_mono d d1 i e a b hE.2.1 hE.2.2.2.2.2.2 hb H1.out.1) q1, q2⟩
              · have u1 : decide (a < i) = false := by simp; omega
                obtain ⟨d2, H2, HZ2, S3⟩ : ∃ d2, Hid (PermIn a mid d1 d2 ∧ SrtK cf rk a mid d2) ∧ Hid (d2.size = d.size) ∧ Aside (SW (encK rk) w0 blk off d2 wr) := ⟨d1, Lib.hid ⟨permIn_refl d1 a mid, srt_join HM1.out.1 HM1.out.2.1 (by have := HG2.out; have := HE.out; omega)⟩, HZ1, S2⟩
                clear S2
                by_cases g3 : mid < e ∧ e < b
                · obtain ⟨g3a, g3b⟩ := g3
                  have u1 : decide (mid < e) = true := by simp; omega
                  have u2 : decide (e < b) = true := by simp; omega
                  go_wp2_with fail
                  obtain ⟨f1, f2, f3⟩ := (HM1.out).right H2.out.1 (by omega) (by omega)
                  have hz := HZ2.out
                  have HK := HIH.out mid e b d2 _ (by omega) (HS.out.trans hz.symm) S3.out g3a g3b (by omega) f1 f2 f3
                  rw [hz] at HK
                  clear hz f1 f2 f3
                  refine HK.mono ?_
                  clear HK S3
                  rintro e' w4 ⟨rfl, d3, S4, hp4, hr4⟩
                  have S4 : Aside (SW (encK rk) w0 blk off d3 w4) := S4
                  have H4 : Hid (PermIn mid b d2 d3 ∧ SrtK cf rk mid b d3) := ⟨hp4, hr4⟩
                  clear hp4 hr4
                  go_wp2
                  go_end0
                  have hz1 := H1.out.1.1
                  have hE := HE.out
                  obtain ⟨q1, q2⟩ := two_parts (by omega) (by omega) (by omega) HM1.out.2.2.2.2.1 H2.out.1 H2.out.2 H4.out.1 H4.out.2
                  exact ⟨rfl, d3, S4, permIn_trans _ _ _ _ _ (permIn_mono d d1 i e a b hE.2.1 hE.2.2.2.2.2.2 hb H1.out.1) q1, q2⟩
                · have hE := HE.out
                  obtain ⟨f1, f2, f3⟩ := (HM1.out).right H2.out.1 (by omega) (by omega)
                  have HR3 : Hid (SrtK cf rk mid b d2) := Lib.hid (srt_join f1 f2 (by omega))
                  clear f1 f2 f3 hE
                  have HG3 : Hid (¬ (mid < e ∧ e < b)) := g3
                  clear g3
                  by_cases g4 : mid < e
                  · have u1 : decide (mid < e) = true := by simp; omega
                    have u2 : decide (e < b) = false := by have := HG3.out; simp; omega
                    go_wp2
                    go_end0
                    have hz1 := H1.out.1.1
                    have hE := HE.out
                    obtain ⟨q1, q2⟩ := two_parts (by omega) (by omega) (by omega) HM1.out.2.2.2.2.1 H2.out.1 H2.out.2 (permIn_refl d2 mid b) HR3.out
                    exact ⟨rfl, d2, S3, permIn_trans _ _ _ _ _ (permIn_mono d d1 i e a b hE.2.1 hE.2.2.2.2.2.2 hb H1.out.1) q1, q2⟩
                  · have u1 : decide (mid < e) = false := by simp; omega
                    go_wp2
                    go_end0
                    have hz1 := H1.out.1.1
                    have hE := HE.out
                    obtain ⟨q1, q2⟩ := two_parts (by omega) (by omega) (by omega) HM1.out.2.2.2.2.1 H2.out.1 H2.out.2 (permIn_refl d2 mid b) HR3.out
                    exact ⟨rfl, d2, S3, permIn_trans _ _ _ _ _ (permIn_mono d d1 i e a b hE.2.1 hE.2.2.2.2.2.2 hb H1.out.1) q1, q2⟩
          · have u1 : decide (i < m) = false := by simp; omega
            have hme : i = m := by have := HE.out; omega
            have HM1 : Aside (Mid1 cf rk a i mid e b d) := HMI.out d (fun k => by rw [hme, rotI_id' m e k (by have := HE.out; omega)])
            obtain ⟨d1, H1, HM1, HZ1, S2⟩ : ∃ d1, Hid (PermIn i e d d1 ∧ True) ∧ Aside (Mid1 cf rk a i mid e b d1) ∧ Hid (d1.size = d.size) ∧ Aside (SW (encK rk) w0 blk off d1 wr) := ⟨d, Lib.hid ⟨permIn_refl d i e, trivial⟩, HM1, Lib.hid rfl, S1⟩
            clear S1 hme
            by_cases g2 : a < i ∧ i < mid
            · obtain ⟨g2a, g2b⟩ := g2
              have u1 : decide (a < i) = true := by simp; omega
              have u2 : decide (i < mid) = true := by simp; omega
              go_wp2_with fail
              have hz := HZ1.out
              have HK := HIH.out a i mid d1 _ (by omega) (HS.out.trans hz.symm) S2.out g2a g2b (by omega) HM1.out.1 HM1.out.2.1 (HM1.out.2.2.2.2.2.mono (Nat.le_refl _) (by omega))
              rw [hz] at HK
              clear hz
              refine HK.mono ?_
              clear HK S2
              rintro e' w3 ⟨rfl, d2, S3, hp3, hr3⟩
              have S3 : Aside (SW (encK rk) w0 blk off d2 w3) := S3
              have H2 : Hid (PermIn a mid d1 d2 ∧ SrtK cf rk a mid d2) := ⟨hp3, hr3⟩
              have HZ2 : Hid (d2.size = d.size) := Lib.hid (hp3.1.trans HZ1.out)
              clear hp3 hr3
              by_cases g3 : mid < e ∧ e < b
              · obtain ⟨g3a, g3b⟩ := g3
                have u1 : decide (mid < e) = true := by simp; omega
                have u2 : decide (e < b) = true := by simp; omega
                go_wp2_with fail
                obtain ⟨f1, f2, f3⟩ := (HM1.out).right H2.out.1 (by omega) (by omega)
                have hz := HZ2.out
                have HK := HIH.out mid e b d2 _ (by omega) (HS.out.trans hz.symm) S3.out g3a g3b (by omega) f1 f2 f3
                rw [hz] at HK
                clear hz f1 f2 f3
                refine HK.mono ?_
                clear HK S3
                rintro e' w4 ⟨rfl, d3, S4, hp4, hr4⟩
                have S4 : Aside (SW (encK rk) w0 blk off d3 w4) := S4
                have H4 : Hid (PermIn mid b d2 d3 ∧ SrtK cf rk mid b d3) := ⟨hp4, hr4⟩
                clear hp4 hr4
                go_wp2
                go_end0
                have hz1 := H1.out.1.1
                have hE := HE.out
                obtain ⟨q1, q2⟩ := two_parts (by omega) (by omega) (by omega) HM1.out.2.2.2.2.1 H2.out.1 H2.out.2 H4.out.1 H4.out.2
                exact ⟨rfl, d3, S4, permIn_trans _ _ _ _ _ (permIn_mono d d1 i e a b hE.2.1 hE.2.2.2.2.2.2 hb H1.out.1) q1, q2⟩
              · have hE := HE.out
                obtain ⟨f1, f2, f3⟩ := (HM1.out).right H2.out.1 (by omega) (by omega)
                have HR3 : Hid (SrtK cf rk mid b d2) := Lib.hid (srt_join f1 f2 (by omega))
                clear f1 f2 f3 hE
                have HG3 : Hid (¬ (mid < e ∧ e < b)) := g3
                clear g3
                by_cases g4 : mid < e
                · have u1 : decide (mid < e) = true := by simp; omega
                  have u2 : decide (e < b) = false := by have := HG3.out; simp; omega
                  go_wp2
                  go_end0
                  have hz1 := H1.out.1.1
                  have hE := HE.out
                  obtain ⟨q1, q2⟩ := two_parts (by omega) (by omega) (by omega) HM1.out.2.2.2.2.1 H2.out.1 H2.out.2 (permIn_refl d2 mid b) HR3.out
                  exact ⟨rfl, d2, S3, permIn_trans _ _ _ _ _ (permIn_mono d d1 i e a b hE.2.1 hE.2.2.2.2.2.2 hb H1.out.1) q1, q2⟩
                · have u1 : decide (mid < e) = false := by simp; omega
                  go_wp2
                  go_end0
                  have hz1 := H1.out.1.1
                  have hE := HE.out
                  obtain ⟨q1, q2⟩ := two_parts (by omega) (by omega) (by omega) HM1.out.2.2.2.2.1 H2.out.1 H2.out.2 (permIn_refl d2 mid b) HR3.out
                  exact ⟨rfl, d2, S3, permIn_trans _ _ _ _ _ (permIn_mono d d1 i e a b hE.2.1 hE.2.2.2.2.2.2 hb H1.out.1) q1, q2⟩
            · have HG2 : Hid (¬ (a < i ∧ i < mid)) := g2
              clear g2
              by_cases g4 : a < i
              · have u1 : decide (a < i) = true := by simp; omega
                have u2 : decide (i < mid) = false := by have := HG2.out; simp; omega
                obtain ⟨d2, H2, HZ2, S3⟩ : ∃ d2, Hid (PermIn a mid d1 d2 ∧ SrtK cf rk a mid d2) ∧ Hid (d2.size = d.size) ∧ Aside (SW (encK rk) w0 blk off d2 wr) := ⟨d1, Lib.hid ⟨permIn_refl d1 a mid, srt_join HM1.out.1 HM1.out.2.1 (by have := HG2.out; have := HE.out; omega)⟩, HZ1, S2⟩
                clear S2
                by_cases g3 : mid < e ∧ e < b
                · obtain ⟨g3a, g3b⟩ := g3
                  have u1 : decide (mid < e) = true := by simp; omega
                  have u2 : decide (e < b) = true := by simp; omega
                  go_wp2_with fail
                  obtain ⟨f1, f2, f3⟩ := (HM1.out).right H2.out.1 (by omega) (by omega)
                  have hz := HZ2.out
                  have HK := HIH.out mid e b d2 _ (by omega) (HS.out.trans hz.symm) S3.out g3a g3b (by omega) f1 f2 f3
                  rw [hz] at HK
                  clear hz f1 f2 f3
                  refine HK.mono ?_
                  clear HK S3
                  rintro e' w4 ⟨rfl, d3, S4, hp4, hr4⟩
                  have S4 : Aside (SW (encK rk) w0 blk off d3 w4) := S4
                  have H4 : Hid (PermIn mid b d2 d3 ∧ SrtK cf rk mid b d3) := ⟨hp4, hr4⟩
                  clear hp4 hr4
                  go_wp2
                  go_end0
                  have hz1 := H1.out.1.1
                  have hE := HE.out
                  obtain ⟨q1, q2⟩ := two_parts (by omega) (by omega) (by omega) HM1.out.2.2.2.2.1 H2.out.1 H2.out.2 H4.out.1 H4.out.2
                  exact ⟨rfl, d3, S4, permIn_trans _ _ _ _ _ (permIn_mono d d1 i e a b hE.2.1 hE.2.2.2.2.2.2 hb H1.out.1) q1, q2⟩
                · have hE := HE.out
                  obtain ⟨f1, f2, f3⟩ := (HM1.out).right H2.out.1 (by omega) (by omega)
                  have HR3 : Hid (SrtK cf rk mid b d2) := Lib.hid (srt_join f1 f2 (by omega))
                  clear f1 f2 f3 hE
                  have HG3 : Hid (¬ (mid < e ∧ e < b)) := g3
                  clear g3
                  by_cases g4 : mid < e
                  · have u1 : decide (mid < e) = true := by simp; omega
                    have u2 : decide (e < b) = false := by have := HG3.out; simp; omega
                    go_wp2
                    go_end0
                    have hz1 := H1.out.1.1
                    have hE := HE.out
                    obtain ⟨q1, q2⟩ := two_parts (by omega) (by omega) (by omega) HM1.out.2.2.2.2.1 H2.out.1 H2.out.2 (permIn_refl d2 mid b) HR3.out
                    exact ⟨rfl, d2, S3, permIn_trans _ _ _ _ _ (permIn_mono d d1 i e a b hE.2.1 hE.2.2.2.2.2.2 hb H1.out.1) q1, q2⟩
                  · have u1 : decide (mid < e) = false := by simp; omega
                    go_wp2
                    go_end0
                    have hz1 := H1.out.1.1
                    have hE := HE.out
                    obtain ⟨q1, q2⟩ := two_parts (by omega) (by omega) (by omega) HM1.out.2.2.2.2.1 H2.out.1 H2.out.2 (permIn_refl d2 mid b) HR3.out
                    exact ⟨rfl, d2, S3, permIn_trans _ _ _ _ _ (permIn_mono d d1 i e a b hE.2.1 hE.2.2.2.2.2.2 hb H1.out.1) q1, q2⟩
              · have u1 : decide (a < i) = false := by simp; omega
                obtain ⟨d2, H2, HZ2, S3⟩ : ∃ d2, Hid (PermIn a mid d1 d2 ∧ SrtK cf rk a mid d2) ∧ Hid (d2.size = d.size) ∧ Aside (SW (encK rk) w0 blk off d2 wr) := ⟨d1, Lib.hid ⟨permIn_refl d1 a mid, srt_join HM1.out.1 HM1.out.2.1 (by have := HG2.out; have := HE.out; omega)⟩, HZ1, S2⟩
                clear S2
                by_cases g3 : mid < e ∧ e < b
                · obtain ⟨g3a, g3b⟩ := g3
                  have u1 : decide (mid < e) = true := by simp; omega
                  have u2 : decide (e < b) = true := by simp; omega
                  go_wp2_with fail
                  obtain ⟨f1, f2, f3⟩ := (HM1.out).right H2.out.1 (by omega) (by omega)
                  have hz := HZ2.out
                  have HK := HIH.out mid e b d2 _ (by omega) (HS.out.trans hz.symm) S3.out g3a g3b (by omega) f1 f2 f3
                  rw [hz] at HK
                  clear hz f1 f2 f3
                  refine HK.mono ?_
                  clear HK S3
                  rintro e' w4 ⟨rfl, d3, S4, hp4, hr4⟩
                  have S4 : Aside (SW (encK rk) w0 blk off d3 w4) := S4
                  have H4 : Hid (PermIn mid b d2 d3 ∧ SrtK cf rk mid b d3) := ⟨hp4, hr4⟩
                  clear hp4 hr4
                  go_wp2
                  go_end0
                  have hz1 := H1.out.1.1
                  have hE := HE.out
                  obtain ⟨q1, q2⟩ := two_parts (by omega) (by omega) (by omega) HM1.out.2.2.2.2.1 H2.out.1 H2.out.2 H4.out.1 H4.out.2
                  exact ⟨rfl, d3, S4, permIn_trans _ _ _ _ _ (permIn_mono d d1 i e a b hE.2.1 hE.2.2.2.2.2.2 hb H1.out.1) q1, q2⟩
                · have hE := HE.out
                  obtain ⟨f1, f2, f3⟩ := (HM1.out).right H2.out.1 (by omega) (by omega)
                  have HR3 : Hid (SrtK cf rk mid b d2) := Lib.hid (srt_join f1 f2 (by omega))
                  clear f1 f2 f3 hE
                  have HG3 : Hid (¬ (mid < e ∧ e < b)) := g3
                  clear g3
                  by_cases g4 : mid < e
                  · have u1 : decide (mid < e) = true := by simp; omega
                    have u2 : decide (e < b) = false := by have := HG3.out; simp; omega
                    go_wp2
                    go_end0
                    have hz1 := H1.out.1.1
                    have hE := HE.out
                    obtain ⟨q1, q2⟩ := two_parts (by omega) (by omega) (by omega) HM1.out.2.2.2.2.1 H2.out.1 H2.out.2 (permIn_refl d2 mid b) HR3.out
                    exact ⟨rfl, d2, S3, permIn_trans _ _ _ _ _ (permIn_mono d d1 i e a b hE.2.1 hE.2.2.2.2.2.2 hb H1.out.1) q1, q2⟩
                  · have u1 : decide (mid < e) = false := by simp; omega
                    go_wp2
                    go_end0
                    have hz1 := H1.out.1.1
                    have hE := HE.out
                    obtain ⟨q1, q2⟩ := two_parts (by omega) (by omega) (by omega) HM1.out.2.2.2.2.1 H2.out.1 H2.out.2 (permIn_refl d2 mid b) HR3.out
                    exact ⟨rfl, d2, S3, permIn_trans _ _ _ _ _ (permIn_mono d d1 i e a b hE.2.1 hE.2.2.2.2.2.2 hb H1.out.1) q1, q2⟩
  · have HQ : Hid (a ≤ a ∧ a ≤ m ∧ m ≤ mid ∧ n ≤ a + b ∧ (a ≤ a ∨ b + a ≤ n) ∧ (m ≤ m ∨ n ≤ m + m)) := Lib.hid (by have := HN.out; have := HMID.out; omega)
    have t0 : decide (mid < m) = false := by simp; omega
    go_enter Tryd.func70, Tryd.ntmps70
    go_wp2
    clear t0
    go_loopg [20, 21] b (fun g1 vi vj wr => ∃ (i j : Nat), vi = .int .i64 i ∧ vj = .int .i64 j ∧ a ≤ i ∧ i ≤ j ∧ j ≤ m ∧ j - i ≤ g1 ∧ Aside (SW (encK rk) w0 blk off d wr) ∧ Hid (i ≤ a ∨ 0 ≤ cf d[n - i]! d[i - 1]!) ∧ Hid (m ≤ j ∨ cf d[np - j]! d[j]! < 0))
    case atStart => exact ⟨a, m, rfl, rfl, by omega, by have := HQ.out; omega, by omega, by have := HQ.out; omega, S0, Lib.hid (.inl (Nat.le_refl _)), Lib.hid (.inl (Nat.le_refl _))⟩
    case round =>
      clear S0
      obtain ⟨i, j, rfl, rfl, hi, hij, hjb, hg1, S1, HI, HJ⟩ := hrel
      by_cases hlt : i < j
      · obtain ⟨c, hc0⟩ : ∃ c, c = (i + j) / 2 := ⟨_, rfl⟩
        have em : ((i : Int) + j) / 2 = c := by omega
        have hm1 : i ≤ c := by omega
        have hm2 : c < j := by omega
        clear hc0
        obtain ⟨pc, hpc⟩ : ∃ pc, pc + c = np := ⟨np - c, by have := HQ.out; have := HN.out; omega⟩
        have ep : (np : Int) - c = pc := by omega
        have hpd : pc < d.size := by have := HQ.out; have := HN.out; omega
        have hcd : c < d.size := by have := HQ.out; omega
        have HPC : Hid (pc + c = np) := hpc
        clear hpc
        obtain ⟨x, hx⟩ : ∃ x, x = d[pc]! := ⟨_, rfl⟩
        obtain ⟨y, hy⟩ : ∃ y, y = d[c]! := ⟨_, rfl⟩
        have l1 := S1.out.cl R HS.out.symm pc hpd
        have l2 := S1.out.cl R HS.out.symm c hcd
        have hc := S1.out.cmp HC.out HS.out.symm x y
        rw [← hx] at l1
        rw [← hy] at l2
        unfold encK at l1 l2 hc
        have HXY : Hid (x = d[pc]! ∧ y = d[c]!) := ⟨hx, hy⟩
        clear hx hy
        have b1 : (pc : Int) < d.size := by omega
        have b2 : (c : Int) < d.size := by omega
        have r2 : IntKind.i64.wrap (pc : Int) = pc := by rw [IntKind.wrap_i64]; omega
        have r3 : ((pc : Int)).toNat = pc := by omega
        by_cases hv : cf x y < 0
        · have hd : decide (cf x y < 0) = true := decide_eq_true hv
          go_wp2_with fail
          go_quiet_grown (first | (go_at_fn g; refine Calls.grown_of (hc _ _)))
          have S2 : Aside (SW (encK rk) w0 blk off d (grow (wr.drewN nq) osq)) := S1.out.grown nq osq
          clear l1 l2 hc S1
          generalize grow (wr.drewN nq) osq = w2 at S2 ⊢
          clear nq osq
          have HV := Lib.hid hv
          clear hv
          go_wp2
          go_roundg (c - i)
          case measure => omega
          case rel => exact ⟨i, c, rfl, rfl, hi, by omega, by omega, by omega, S2, HI, Lib.hid (.inr (by rw [show np - c = pc by have := HPC.out; omega, ← HXY.out.1, ← HXY.out.2]; exact HV.out))⟩
        · have hd : decide (cf x y < 0) = false := decide_eq_false hv
          go_wp2_with fail
          go_quiet_grown (first | (go_at_fn g; refine Calls.grown_of (hc _ _)))
          have S2 : Aside (SW (encK rk) w0 blk off d (grow (wr.drewN nq) osq)) := S1.out.grown nq osq
          clear l1 l2 hc S1
          generalize grow (wr.drewN nq) osq = w2 at S2 ⊢
          clear nq osq
          have HV : Hid (0 ≤ cf x y) := Lib.hid (by omega)
          clear hv
          go_wp2
          go_roundg (j - (c + 1))
          case measure => omega
          case rel => exact ⟨c + 1, j, by go_num, rfl, by omega, by omega, hjb, by omega, S2, Lib.hid (.inr (by rw [Nat.add_sub_cancel, show n - (c + 1) = pc by have := HPC.out; have := HN.out; omega, ← HXY.out.1, ← HXY.out.2]; exact HV.out)), HJ⟩
      · obtain rfl : i = j := by omega
        obtain ⟨e, hee⟩ : ∃ e, e + i = n := ⟨n - i, by have := HQ.out; have := HN.out; omega⟩
        have e6 : (n : Int) - i = e := by omega
        have HE : Hid (e + i = mid + m ∧ a ≤ i ∧ i ≤ m ∧ i ≤ mid ∧ m ≤ e ∧ mid ≤ e ∧ e ≤ b) := Lib.hid (by have := HQ.out; have := HN.out; omega)
        have HMI : Aside (∀ d1 : Array α, (∀ k, d1[k]! = d[rotI i m e k]!) → Mid1 cf rk a i mid e b d1) := fun d1 hr => by
          have hE := HE.out
          have hN := HN.out
          have hQ := HQ.out
          refine mid1_of HOK.out hE.2.1 hE.2.2.1 hE.2.2.2.2.1 hE.2.2.2.2.2.2 hE.1 HSR.out.1 HSR.out.2.1 HSR.out.2.2 ?_ ?_ hr
          · rcases HJ.out with q | q
            · omega
            · rw [show mid + m - 1 - i = np - i by omega]; exact .inr (.inr q)
          · rcases HI.out with q | q
            · omega
            · rw [show mid + m - i = n - i by omega]; exact .inr (.inr q)
        have HED := Lib.hid hee
        clear hee
        by_cases g1 : i < m ∧ m < e
        · obtain ⟨g1a, g1b⟩ := g1
          have u1 : decide (i < m) = true := by simp; omega
          have u2 : decide (m < e) = true := by simp; omega
          go_wp2_with fail
          have HK := rotate_any (cap := cap) i m e (.func (.func g) #[] cb) R HS.out S1.out g1a g1b (by have := HE.out; omega) hsz
          refine HK.mono ?_
          clear HK S1
          rintro e' w2 ⟨rfl, d1, S2, hp2, hr2⟩
          have S2 : Aside (SW (encK rk) w0 blk off d1 w2) := S2
          have HM1 : Aside (Mid1 cf rk a i mid e b d1) := HMI.out d1 hr2
          have H1 : Hid (PermIn i e d d1 ∧ True) := ⟨hp2, trivial⟩
          have HZ1 : Hid (d1.size = d.size) := Lib.hid hp2.1
          clear hp2 hr2
          by_cases g2 : a < i ∧ i < mid
          · obtain ⟨g2a, g2b⟩ := g2
            have u1 : decide (a < i) = true := by simp; omega
            have u2 : decide (i < mid) = true := by simp; omega
            go_wp2_with fail
            have hz := HZ1.out
            have HK := HIH.out a i mid d1 _ (by omega) (HS.out.trans hz.symm) S2.out g2a g2b (by omega) HM1.out.1 HM1.out.2.1 (HM1.out.2.2.2.2.2.mono (Nat.le_refl _) (by omega))
            rw [hz] at HK
            clear hz
            refine HK.mono ?_
            clear HK S2
            rintro e' w3 ⟨rfl, d2, S3, hp3, hr3⟩
            have S3 : Aside (SW (encK rk) w0 blk off d2 w3) := S3
            have H2 : Hid (PermIn a mid d1 d2 ∧ SrtK cf rk a mid d2) := ⟨hp3, hr3⟩
            have HZ2 : Hid (d2.size = d.size) := Lib.hid (hp3.1.trans HZ1.out)
            clear hp3 hr3
            by_cases g3 : mid < e ∧ e < b
            · obtain ⟨g3a, g3b⟩ := g3
              have u1 : decide (mid < e) = true := by simp; omega
              have u2 : decide (e < b) = true := by simp; omega
              go_wp2_with fail
              obtain ⟨f1, f2, f3⟩ := (HM1.out).right H2.out.1 (by omega) (by omega)
              have hz := HZ2.out
              have HK := HIH.out mid e b d2 _ (by omega) (HS.out.trans hz.symm) S3.out g3a g3b (by omega) f1 f2 f3
              rw [hz] at HK
              clear hz f1 f2 f3
              refine HK.mono ?_
              clear HK S3
              rintro e' w4 ⟨rfl, d3, S4, hp4, hr4⟩
              have S4 : Aside (SW (encK rk) w0 blk off d3 w4) := S4
              have H4 : Hid (PermIn mid b d2 d3 ∧ SrtK cf rk mid b d3) := ⟨hp4, hr4⟩
              clear hp4 hr4
              go_wp2
              go_end0
              have hz1 := H1.out.1.1
              have hE := HE.out
              obtain ⟨q1, q2⟩ := two_parts (by omega) (by omega) (by omega) HM1.out.2.2.2.2.1 H2.out.1 H2.out.2 H4.out.1 H4.out.2
              exact ⟨rfl, d3, S4, permIn_trans _ _ _ _ _ (permIn_mono d d1 i e a b hE.2.1 hE.2.2.2.2.2.2 hb H1.out.1) q1, q2⟩
            · have hE := HE.out
              obtain ⟨f1, f2, f3⟩ := (HM1.out).right H2.out.1 (by omega) (by omega)
              have HR3 : Hid (SrtK cf rk mid b d2) := Lib.hid (srt_join f1 f2 (by omega))
              clear f1 f2 f3 hE
              have HG3 : Hid (¬ (mid < e ∧ e < b)) := g3
              clear g3
              by_cases g4 : mid < e
              · have u1 : decide (mid < e) = true := by simp; omega
                have u2 : decide (e < b) = false := by have := HG3.out; simp; omega
                go_wp2
                go_end0
                have hz1 := H1.out.1.1
                have hE := HE.out
                obtain ⟨q1, q2⟩ := two_parts (by omega) (by omega) (by omega) HM1.out.2.2.2.2.1 H2.out.1 H2.out.2 (permIn_refl d2 mid b) HR3.out
                exact ⟨rfl, d2, S3, permIn_trans _ _ _ _ _ (permIn_mono d d1 i e a b hE.2.1 hE.2.2.2.2.2.2 hb H1.out.1) q1, q2⟩
              · have u1 : decide (mid < e) = false := by simp; omega
                go_wp2
                go_end0
                have hz1 := H1.out.1.1
                have hE := HE.out
                obtain ⟨q1, q2⟩ := two_parts (by omega) (by omega) (by omega) HM1.out.2.2.2.2.1 H2.out.1 H2.out.2 (permIn_refl d2 mid b) HR3.out
                exact ⟨rfl, d2, S3, permIn_trans _ _ _ _ _ (permIn_mono d d1 i e a b hE.2.1 hE.2.2.2.2.2.2 hb H1.out.1) q1, q2⟩
          · have HG2 : Hid (¬ (a < i ∧ i < mid)) := g2
            clear g2
            by_cases g4 : a < i
            · have u1 : decide (a < i) = true := by simp; omega
              have u2 : decide (i < mid) = false := by have := HG2.out; simp; omega
              obtain ⟨d2, H2, HZ2, S3⟩ : ∃ d2, Hid (PermIn a mid d1 d2 ∧ SrtK cf rk a mid d2) ∧ Hid (d2.size = d.size) ∧ Aside (SW (encK rk) w0 blk off d2 w2) := ⟨d1, Lib.hid ⟨permIn_refl d1 a mid, srt_join HM1.out.1 HM1.out.2.1 (by have := HG2.out; have := HE.out; omega)⟩, HZ1, S2⟩
              clear S2
              by_cases g3 : mid < e ∧ e < b
              · obtain ⟨g3a, g3b⟩ := g3
                have u1 : decide (mid < e) = true := by simp; omega
                have u2 : decide (e < b) = true := by simp; omega
                go_wp2_with fail
                obtain ⟨f1, f2, f3⟩ := (HM1.out).right H2.out.1 (by omega) (by omega)
                have hz := HZ2.out
                have HK := HIH.out mid e b d2 _ (by omega) (HS.out.trans hz.symm) S3.out g3a g3b (by omega) f1 f2 f3
                rw [hz] at HK
                clear hz f1 f2 f3
                refine HK.mono ?_
                clear HK S3
                rintro e' w4 ⟨rfl, d3, S4, hp4, hr4⟩
                have S4 : Aside (SW (encK rk) w0 blk off d3 w4) := S4
                have H4 : Hid (PermIn mid b d2 d3 ∧ SrtK cf rk mid b d3) := ⟨hp4, hr4⟩
                clear hp4 hr4
                go_wp2
                go_end0
                have hz1 := H1.out.1.1
                have hE := HE.out
                obtain ⟨q1, q2⟩ := two_parts (by omega) (by omega) (by omega) HM1.out.2.2.2.2.1 H2.out.1 H2.out.2 H4.out.1 H4.out.2
                exact ⟨rfl, d3, S4, permIn_trans _ _ _ _ _ (permIn_mono d d1 i e a b hE.2.1 hE.2.2.2.2.2.2 hb H1.out.1) q1, q2⟩
              · have hE := HE.out
                obtain ⟨f1, f2, f3⟩ := (HM1.out).right H2.out.1 (by omega) (by omega)
                have HR3 : Hid (SrtK cf rk mid b d2) := Lib.hid (srt_join f1 f2 (by omega))
                clear f1 f2 f3 hE
                have HG3 : Hid (¬ (mid < e ∧ e < b)) := g3
                clear g3
                by_cases g4 : mid < e
                · have u1 : decide (mid < e) = true := by simp; omega
                  have u2 : decide (e < b) = false := by have := HG3.out; simp; omega
                  go_wp2
                  go_end0
                  have hz1 := H1.out.1.1
                  have hE := HE.out
                  obtain ⟨q1, q2⟩ := two_parts (by omega) (by omega) (by omega) HM1.out.2.2.2.2.1 H2.out.1 H2.out.2 (permIn_refl d2 mid b) HR3.out
                  exact ⟨rfl, d2, S3, permIn_trans _ _ _ _ _ (permIn_mono d d1 i e a b hE.2.1 hE.2.2.2.2.2.2 hb H1.out.1) q1, q2⟩
                · have u1 : decide (mid < e) = false := by simp; omega
                  go_wp2
                  go_end0
                  have hz1 := H1.out.1.1
                  have hE := HE.out
                  obtain ⟨q1, q2⟩ := two_parts (by omega) (by omega) (by omega) HM1.out.2.2.2.2.1 H2.out.1 H2.out.2 (permIn_refl d2 mid b) HR3.out
                  exact ⟨rfl, d2, S3, permIn_trans _ _ _ _ _ (permIn_mono d d1 i e a b hE.2.1 hE.2.2.2.2.2.2 hb H1.out.1) q1, q2⟩
            · have u1 : decide (a < i) = false := by simp; omega
              obtain ⟨d2, H2, HZ2, S3⟩ : ∃ d2, Hid (PermIn a mid d1 d2 ∧ SrtK cf rk a mid d2) ∧ Hid (d2.size = d.size) ∧ Aside (SW (encK rk) w0 blk off d2 w2) := ⟨d1, Lib.hid ⟨permIn_refl d1 a mid, srt_join HM1.out.1 HM1.out.2.1 (by have := HG2.out; have := HE.out; omega)⟩, HZ1, S2⟩
              clear S2
              by_cases g3 : mid < e ∧ e < b
              · obtain ⟨g3a, g3b⟩ := g3
                have u1 : decide (mid < e) = true := by simp; omega
                have u2 : decide (e < b) = true := by simp; omega
                go_wp2_with fail
                obtain ⟨f1, f2, f3⟩ := (HM1.out).right H2.out.1 (by omega) (by omega)
                have hz := HZ2.out
                have HK := HIH.out mid e b d2 _ (by omega) (HS.out.trans hz.symm) S3.out g3a g3b (by omega) f1 f2 f3
                rw [hz] at HK
                clear hz f1 f2 f3
                refine HK.mono ?_
                clear HK S3
                rintro e' w4 ⟨rfl, d3, S4, hp4, hr4⟩
                have S4 : Aside (SW (encK rk) w0 blk off d3 w4) := S4
                have H4 : Hid (PermIn mid b d2 d3 ∧ SrtK cf rk mid b d3) := ⟨hp4, hr4⟩
                clear hp4 hr4
                go_wp2
                go_end0
                have hz1 := H1.out.1.1
                have hE := HE.out
                obtain ⟨q1, q2⟩ := two_parts (by omega) (by omega) (by omega) HM1.out.2.2.2.2.1 H2.out.1 H2.out.2 H4.out.1 H4.out.2
                exact ⟨rfl, d3, S4, permIn_trans _ _ _ _ _ (permIn_mono d d1 i e a b hE.2.1 hE.2.2.2.2.2.2 hb H1.out.1) q1, q2⟩
              · have hE := HE.out
                obtain ⟨f1, f2, f3⟩ := (HM1.out).right H2.out.1 (by omega) (by omega)
                have HR3 : Hid (SrtK cf rk mid b d2) := Lib.hid (srt_join f1 f2 (by omega))
                clear f1 f2 f3 hE
                have HG3 : Hid (¬ (mid < e ∧ e < b)) := g3
                clear g3
                by_cases g4 : mid < e
                · have u1 : decide (mid < e) = true := by simp; omega
                  have u2 : decide (e < b) = false := by have := HG3.out; simp; omega
                  go_wp2
                  go_end0
                  have hz1 := H1.out.1.1
                  have hE := HE.out
                  obtain ⟨q1, q2⟩ := two_parts (by omega) (by omega) (by omega) HM1.out.2.2.2.2.1 H2.out.1 H2.out.2 (permIn_refl d2 mid b) HR3.out
                  exact ⟨rfl, d2, S3, permIn_trans _ _ _ _ _ (permIn_mono d d1 i e a b hE.2.1 hE.2.2.2.2.2.2 hb H1.out.1) q1, q2⟩
                · have u1 : decide (mid < e) = false := by simp; omega
                  go_wp2
                  go_end0
                  have hz1 := H1.out.1.1
                  have hE := HE.out
                  obtain ⟨q1, q2⟩ := two_parts (by omega) (by omega) (by omega) HM1.out.2.2.2.2.1 H2.out.1 H2.out.2 (permIn_refl d2 mid b) HR3.out
                  exact ⟨rfl, d2, S3, permIn_trans _ _ _ _ _ (permIn_mono d d1 i e a b hE.2.1 hE.2.2.2.2.2.2 hb H1.out.1) q1, q2⟩
        · have HG1 : Hid (¬ (i < m ∧ m < e)) := g1
          clear g1
          by_cases g4 : i < m
          · have u1 : decide (i < m) = true := by simp; omega
            have u2 : decide (m < e) = false := by have := HG1.out; simp; omega
            have hme : m = e := by have := HG1.out; have := HE.out; omega
            have HM1 : Aside (Mid1 cf rk a i mid e b d) := HMI.out d (fun k => by rw [hme, rotI_id i e k (by have := HE.out; omega)])
            obtain ⟨d1, H1, HM1, HZ1, S2⟩ : ∃ d1, Hid (PermIn i e d d1 ∧ True) ∧ Aside (Mid1 cf rk a i mid e b d1) ∧ Hid (d1.size = d.size) ∧ Aside (SW (encK rk) w0 blk off d1 wr) := ⟨d, Lib.hid ⟨permIn_refl d i e, trivial⟩, HM1, Lib.hid rfl, S1⟩
            clear S1 hme
            by_cases g2 : a < i ∧ i < mid
            · obtain ⟨g2a, g2b⟩ := g2
              have u1 : decide (a < i) = true := by simp; omega
              have u2 : decide (i < mid) = true := by simp; omega
              go_wp2_with fail
              have hz := HZ1.out
              have HK := HIH.out a i mid d1 _ (by omega) (HS.out.trans hz.symm) S2.out g2a g2b (by omega) HM1.out.1 HM1.out.2.1 (HM1.out.2.2.2.2.2.mono (Nat.le_refl _) (by omega))
              rw [hz] at HK
              clear hz
              refine HK.mono ?_
              clear HK S2
              rintro e' w3 ⟨rfl, d2, S3, hp3, hr3⟩
              have S3 : Aside (SW (encK rk) w0 blk off d2 w3) := S3
              have H2 : Hid (PermIn a mid d1 d2 ∧ SrtK cf rk a mid d2) := ⟨hp3, hr3⟩
              have HZ2 : Hid (d2.size = d.size) := Lib.hid (hp3.1.trans HZ1.out)
              clear hp3 hr3
              by_cases g3 : mid < e ∧ e < b
              · obtain ⟨g3a, g3b⟩ := g3
                have u1 : decide (mid < e) = true := by simp; omega
                have u2 : decide (e < b) = true := by simp; omega
                go_wp2_with fail
                obtain ⟨f1, f2, f3⟩ := (HM1.out).right H2.out.1 (by omega) (by omega)
                have hz := HZ2.out
                have HK := HIH.out mid e b d2 _ (by omega) (HS.out.trans hz.symm) S3.out g3a g3b (by omega) f1 f2 f3
                rw [hz] at HK
                clear hz f1 f2 f3
                refine HK.mono ?_
                clear HK S3
                rintro e' w4 ⟨rfl, d3, S4, hp4, hr4⟩
                have S4 : Aside (SW (encK rk) w0 blk off d3 w4) := S4
                have H4 : Hid (PermIn mid b d2 d3 ∧ SrtK cf rk mid b d3) := ⟨hp4, hr4⟩
                clear hp4 hr4
                go_wp2
                go_end0
                have hz1 := H1.out.1.1
                have hE := HE.out
                obtain ⟨q1, q2⟩ := two_parts (by omega) (by omega) (by omega) HM1.out.2.2.2.2.1 H2.out.1 H2.out.2 H4.out.1 H4.out.2
                exact ⟨rfl, d3, S4, permIn_trans _ _ _ _ _ (permIn_mono d d1 i e a b hE.2.1 hE.2.2.2.2.2.2 hb H1.out.1) q1, q2⟩
              · have hE := HE.out
                obtain ⟨f1, f2, f3⟩ := (HM1.out).right H2.out.1 (by omega) (by omega)
                have HR3 : Hid (SrtK cf rk mid b d2) := Lib.hid (srt_join f1 f2 (by omega))
                clear f1 f2 f3 hE
                have HG3 : Hid (¬ (mid < e ∧ e < b)) := g3
                clear g3
                by_cases g4 : mid < e
                · have u1 : decide (mid < e) = true := by simp; omega
                  have u2 : decide (e < b) = false := by have := HG3.out; simp; omega
                  go_wp2
                  go_end0
                  have hz1 := H1.out.1.1
                  have hE := HE.out
                  obtain ⟨q1, q2⟩ := two_parts (by omega) (by omega) (by omega) HM1.out.2.2.2.2.1 H2.out.1 H2.out.2 (permIn_refl d2 mid b) HR3.out
                  exact ⟨rfl, d2, S3, permIn_trans _ _ _ _ _ (permIn_mono d d1 i e a b hE.2.1 hE.2.2.2.2.2.2 hb H1.out.1) q1, q2⟩
                · have u1 : decide (mid < e) = false := by simp; omega
                  go_wp2
                  go_end0
                  have hz1 := H1.out.1.1
                  have hE := HE.out
                  obtain ⟨q1, q2⟩ := two_parts (by omega) (by omega) (by omega) HM1.out.2.2.2.2.1 H2.out.1 H2.out.2 (permIn_refl d2 mid b) HR3.out
                  exact ⟨rfl, d2, S3, permIn_trans _ _ _ _ _ (permIn_mono d d1 i e a b hE.2.1 hE.2.2.2.2.2.2 hb H1.out.1) q1, q2⟩
            · have HG2 : Hid (¬ (a < i ∧ i < mid)) := g2
              clear g2
              by_cases g4 : a < i
              · have u1 : decide (a < i) = true := by simp; omega
                have u2 : decide (i < mid) = false := by have := HG2.out; simp; omega
                obtain ⟨d2, H2, HZ2, S3⟩ : ∃ d2, Hid (PermIn a mid d1 d2 ∧ SrtK cf rk a mid d2) ∧ Hid (d2.size = d.size) ∧ Aside (SW (encK rk) w0 blk off d2 wr) := ⟨d1, Lib.hid ⟨permIn_refl d1 a mid, srt_join HM1.out.1 HM1.out.2.1 (by have := HG2.out; have := HE.out; omega)⟩, HZ1, S2⟩
                clear S2
                by_cases g3 : mid < e ∧ e < b
                · obtain ⟨g3a, g3b⟩ := g3
                  have u1 : decide (mid < e) = true := by simp; omega
                  have u2 : decide (e < b) = true := by simp; omega
                  go_wp2_with fail
                  obtain ⟨f1, f2, f3⟩ := (HM1.out).right H2.out.1 (by omega) (by omega)
                  have hz := HZ2.out
                  have HK := HIH.out mid e b d2 _ (by omega) (HS.out.trans hz.symm) S3.out g3a g3b (by omega) f1 f2 f3
                  rw [hz] at HK
                  clear hz f1 f2 f3
                  refine HK.mono ?_
                  clear HK S3
                  rintro e' w4 ⟨rfl, d3, S4, hp4, hr4⟩
                  have S4 : Aside (SW (encK rk) w0 blk off d3 w4) := S4
                  have H4 : Hid (PermIn mid b d2 d3 ∧ SrtK cf rk mid b d3) := ⟨hp4, hr4⟩
                  clear hp4 hr4
                  go_wp2
                  go_end0
                  have hz1 := H1.out.1.1
                  have hE := HE.out
                  obtain ⟨q1, q2⟩ := two_parts (by omega) (by omega) (by omega) HM1.out.2.2.2.2.1 H2.out.1 H2.out.2 H4.out.1 H4.out.2
                  exact ⟨rfl, d3, S4, permIn_trans _ _ _ _ _ (permIn_mono d d1 i e a b hE.2.1 hE.2.2.2.2.2.2 hb H1.out.1) q1, q2⟩
                · have hE := HE.out
                  obtain ⟨f1, f2, f3⟩ := (HM1.out).right H2.out.1 (by omega) (by omega)
                  have HR3 : Hid (SrtK cf rk mid b d2) := Lib.hid (srt_join f1 f2 (by omega))
                  clear f1 f2 f3 hE
                  have HG3 : Hid (¬ (mid < e ∧ e < b)) := g3
                  clear g3
                  by_cases g4 : mid < e
                  · have u1 : decide (mid < e) = true := by simp; omega
                    have u2 : decide (e < b) = false := by have := HG3.out; simp; omega
                    go_wp2
                    go_end0
                    have hz1 := H1.out.1.1
                    have hE := HE.out
                    obtain ⟨q1, q2⟩ := two_parts (by omega) (by omega) (by omega) HM1.out.2.2.2.2.1 H2.out.1 H2.out.2 (permIn_refl d2 mid b) HR3.out
                    exact ⟨rfl, d2, S3, permIn_trans _ _ _ _ _ (permIn_mono d d1 i e a b hE.2.1 hE.2.2.2.2.2.2 hb H1.out.1) q1, q2⟩
                  · have u1 : decide (mid < e) = false := by simp; omega
                    go_wp2
                    go_end0
                    have hz1 := H1.out.1.1
                    have hE := HE.out
                    obtain ⟨q1, q2⟩ := two_parts (by omega) (by omega) (by omega) HM1.out.2.2.2.2.1 H2.out.1 H2.out.2 (permIn_refl d2 mid b) HR3.out
                    exact ⟨rfl, d2, S3, permIn_trans _ _ _ _ _ (permIn_mono d d1 i e a b hE.2.1 hE.2.2.2.2.2.2 hb H1.out.1) q1, q2⟩
              · have u1 : decide (a < i) = false := by simp; omega
                obtain ⟨d2, H2, HZ2, S3⟩ : ∃ d2, Hid (PermIn a mid d1 d2 ∧ SrtK cf rk a mid d2) ∧ Hid (d2.size = d.size) ∧ Aside (SW (encK rk) w0 blk off d2 wr) := ⟨d1, Lib.hid ⟨permIn_refl d1 a mid, srt_join HM1.out.1 HM1.out.2.1 (by have := HG2.out; have := HE.out; omega)⟩, HZ1, S2⟩
                clear S2
                by_cases g3 : mid < e ∧ e < b
                · obtain ⟨g3a, g3b⟩ := g3
                  have u1 : decide (mid < e) = true := by simp; omega
                  have u2 : decide (e < b) = true := by simp; omega
                  go_wp2_with fail
                  obtain ⟨f1, f2, f3⟩ := (HM1.out).right H2.out.1 (by omega) (by omega)
                  have hz := HZ2.out
                  have HK := HIH.out mid e b d2 _ (by omega) (HS.out.trans hz.symm) S3.out g3a g3b (by omega) f1 f2 f3
                  rw [hz] at HK
                  clear hz f1 f2 f3
                  refine HK.mono ?_
                  clear HK S3
                  rintro e' w4 ⟨rfl, d3, S4, hp4, hr4⟩
                  have S4 : Aside (SW (encK rk) w0 blk off d3 w4) := S4
                  have H4 : Hid (PermIn mid b d2 d3 ∧ SrtK cf rk mid b d3) := ⟨hp4, hr4⟩
                  clear hp4 hr4
                  go_wp2
                  go_end0
                  have hz1 := H1.out.1.1
                  have hE := HE.out
                  obtain ⟨q1, q2⟩ := two_parts (by omega) (by omega) (by omega) HM1.out.2.2.2.2.1 H2.out.1 H2.out.2 H4.out.1 H4.out.2
                  exact ⟨rfl, d3, S4, permIn_trans _ _ _ _ _ (permIn_mono d d1 i e a b hE.2.1 hE.2.2.2.2.2.2 hb H1.out.1) q1, q2⟩
                · have hE := HE.out
                  obtain ⟨f1, f2, f3⟩ := (HM1.out).right H2.out.1 (by omega) (by omega)
                  have HR3 : Hid (SrtK cf rk mid b d2) := Lib.hid (srt_join f1 f2 (by omega))
                  clear f1 f2 f3 hE
                  have HG3 : Hid (¬ (mid < e ∧ e < b)) := g3
                  clear g3
                  by_cases g4 : mid < e
                  · have u1 : decide (mid < e) = true := by simp; omega
                    have u2 : decide (e < b) = false := by have := HG3.out; simp; omega
                    go_wp2
                    go_end0
                    have hz1 := H1.out.1.1
                    have hE := HE.out
                    obtain ⟨q1, q2⟩ := two_parts (by omega) (by omega) (by omega) HM1.out.2.2.2.2.1 H2.out.1 H2.out.2 (permIn_refl d2 mid b) HR3.out
                    exact ⟨rfl, d2, S3, permIn_trans _ _ _ _ _ (permIn_mono d d1 i e a b hE.2.1 hE.2.2.2.2.2.2 hb H1.out.1) q1, q2⟩
                  · have u1 : decide (mid < e) = false := by simp; omega
                    go_wp2
                    go_end0
                    have hz1 := H1.out.1.1
                    have hE := HE.out
                    obtain ⟨q1, q2⟩ := two_parts (by omega) (by omega) (by omega) HM1.out.2.2.2.2.1 H2.out.1 H2.out.2 (permIn_refl d2 mid b) HR3.out
                    exact ⟨rfl, d2, S3, permIn_trans _ _ _ _ _ (permIn_mono d d1 i e a b hE.2.1 hE.2.2.2.2.2.2 hb H1.out.1) q1, q2⟩
          · have u1 : decide (i < m) = false := by simp; omega
            have hme : i = m := by have := HE.out; omega
            have HM1 : Aside (Mid1 cf rk a i mid e b d) := HMI.out d (fun k => by rw [hme, rotI_id' m e k (by have := HE.out; omega)])
            obtain ⟨d1, H1, HM1, HZ1, S2⟩ : ∃ d1, Hid (PermIn i e d d1 ∧ True) ∧ Aside (Mid1 cf rk a i mid e b d1) ∧ Hid (d1.size = d.size) ∧ Aside (SW (encK rk) w0 blk off d1 wr) := ⟨d, Lib.hid ⟨permIn_refl d i e, trivial⟩, HM1, Lib.hid rfl, S1⟩
            clear S1 hme
            by_cases g2 : a < i ∧ i < mid
            · obtain ⟨g2a, g2b⟩ := g2
              have u1 : decide (a < i) = true := by simp; omega
              have u2 : decide (i < mid) = true := by simp; omega
              go_wp2_with fail
              have hz := HZ1.out
              have HK := HIH.out a i mid d1 _ (by omega) (HS.out.trans hz.symm) S2.out g2a g2b (by omega) HM1.out.1 HM1.out.2.1 (HM1.out.2.2.2.2.2.mono (Nat.le_refl _) (by omega))
              rw [hz] at HK
              clear hz
              refine HK.mono ?_
              clear HK S2
              rintro e' w3 ⟨rfl, d2, S3, hp3, hr3⟩
              have S3 : Aside (SW (encK rk) w0 blk off d2 w3) := S3
              have H2 : Hid (PermIn a mid d1 d2 ∧ SrtK cf rk a mid d2) := ⟨hp3, hr3⟩
              have HZ2 : Hid (d2.size = d.size) := Lib.hid (hp3.1.trans HZ1.out)
              clear hp3 hr3
              by_cases g3 : mid < e ∧ e < b
              · obtain ⟨g3a, g3b⟩ := g3
                have u1 : decide (mid < e) = true := by simp; omega
                have u2 : decide (e < b) = true := by simp; omega
                go_wp2_with fail
                obtain ⟨f1, f2, f3⟩ := (HM1.out).right H2.out.1 (by omega) (by omega)
                have hz := HZ2.out
                have HK := HIH.out mid e b d2 _ (by omega) (HS.out.trans hz.symm) S3.out g3a g3b (by omega) f1 f2 f3
                rw [hz] at HK
                clear hz f1 f2 f3
                refine HK.mono ?_
                clear HK S3
                rintro e' w4 ⟨rfl, d3, S4, hp4, hr4⟩
                have S4 : Aside (SW (encK rk) w0 blk off d3 w4) := S4
                have H4 : Hid (PermIn mid b d2 d3 ∧ SrtK cf rk mid b d3) := ⟨hp4, hr4⟩
                clear hp4 hr4
                go_wp2
                go_end0
                have hz1 := H1.out.1.1
                have hE := HE.out
                obtain ⟨q1, q2⟩ := two_parts (by omega) (by omega) (by omega) HM1.out.2.2.2.2.1 H2.out.1 H2.out.2 H4.out.1 H4.out.2
                exact ⟨rfl, d3, S4, permIn_trans _ _ _ _ _ (permIn_mono d d1 i e a b hE.2.1 hE.2.2.2.2.2.2 hb H1.out.1) q1, q2⟩
              · have hE := HE.out
                obtain ⟨f1, f2, f3⟩ := (HM1.out).right H2.out.1 (by omega) (by omega)
                have HR3 : Hid (SrtK cf rk mid b d2) := Lib.hid (srt_join f1 f2 (by omega))
                clear f1 f2 f3 hE
                have HG3 : Hid (¬ (mid < e ∧ e < b)) := g3
                clear g3
                by_cases g4 : mid < e
                · have u1 : decide (mid < e) = true := by simp; omega
                  have u2 : decide (e < b) = false := by have := HG3.out; simp; omega
                  go_wp2
                  go_end0
                  have hz1 := H1.out.1.1
                  have hE := HE.out
                  obtain ⟨q1, q2⟩ := two_parts (by omega) (by omega) (by omega) HM1.out.2.2.2.2.1 H2.out.1 H2.out.2 (permIn_refl d2 mid b) HR3.out
                  exact ⟨rfl, d2, S3, permIn_trans _ _ _ _ _ (permIn_mono d d1 i e a b hE.2.1 hE.2.2.2.2.2.2 hb H1.out.1) q1, q2⟩
                · have u1 : decide (mid < e) = false := by simp; omega
                  go_wp2
                  go_end0
                  have hz1 := H1.out.1.1
                  have hE := HE.out
                  obtain ⟨q1, q2⟩ := two_parts (by omega) (by omega) (by omega) HM1.out.2.2.2.2.1 H2.out.1 H2.out.2 (permIn_refl d2 mid b) HR3.out
                  exact ⟨rfl, d2, S3, permIn_trans _ _ _ _ _ (permIn_mono d d1 i e a b hE.2.1 hE.2.2.2.2.2.2 hb H1.out.1) q1, q2⟩
            · have HG2 : Hid (¬ (a < i ∧ i < mid)) := g2
              clear g2
              by_cases g4 : a < i
              · have u1 : decide (a < i) = true := by simp; omega
                have u2 : decide (i < mid) = false := by have := HG2.out; simp; omega
                obtain ⟨d2, H2, HZ2, S3⟩ : ∃ d2, Hid (PermIn a mid d1 d2 ∧ SrtK cf rk a mid d2) ∧ Hid (d2.size = d.size) ∧ Aside (SW (encK rk) w0 blk off d2 wr) := ⟨d1, Lib.hid ⟨permIn_refl d1 a mid, srt_join HM1.out.1 HM1.out.2.1 (by have := HG2.out; have := HE.out; omega)⟩, HZ1, S2⟩
                clear S2
                by_cases g3 : mid < e ∧ e < b
                · obtain ⟨g3a, g3b⟩ := g3
                  have u1 : decide (mid < e) = true := by simp; omega
                  have u2 : decide (e < b) = true := by simp; omega
                  go_wp2_with fail
                  obtain ⟨f1, f2, f3⟩ := (HM1.out).right H2.out.1 (by omega) (by omega)
                  have hz := HZ2.out
                  have HK := HIH.out mid e b d2 _ (by omega) (HS.out.trans hz.symm) S3.out g3a g3b (by omega) f1 f2 f3
                  rw [hz] at HK
                  clear hz f1 f2 f3
                  refine HK.mono ?_
                  clear HK S3
                  rintro e' w4 ⟨rfl, d3, S4, hp4, hr4⟩
                  have S4 : Aside (SW (encK rk) w0 blk off d3 w4) := S4
                  have H4 : Hid (PermIn mid b d2 d3 ∧ SrtK cf rk mid b d3) := ⟨hp4, hr4⟩
                  clear hp4 hr4
                  go_wp2
                  go_end0
                  have hz1 := H1.out.1.1
                  have hE := HE.out
                  obtain ⟨q1, q2⟩ := two_parts (by omega) (by omega) (by omega) HM1.out.2.2.2.2.1 H2.out.1 H2.out.2 H4.out.1 H4.out.2
                  exact ⟨rfl, d3, S4, permIn_trans _ _ _ _ _ (permIn_mono d d1 i e a b hE.2.1 hE.2.2.2.2.2.2 hb H1.out.1) q1, q2⟩
                · have hE := HE.out
                  obtain ⟨f1, f2, f3⟩ := (HM1.out).right H2.out.1 (by omega) (by omega)
                  have HR3 : Hid (SrtK cf rk mid b d2) := Lib.hid (srt_join f1 f2 (by omega))
                  clear f1 f2 f3 hE
                  have HG3 : Hid (¬ (mid < e ∧ e < b)) := g3
                  clear g3
                  by_cases g4 : mid < e
                  · have u1 : decide (mid < e) = true := by simp; omega
                    have u2 : decide (e < b) = false := by have := HG3.out; simp; omega
                    go_wp2
                    go_end0
                    have hz1 := H1.out.1.1
                    have hE := HE.out
                    obtain ⟨q1, q2⟩ := two_parts (by omega) (by omega) (by omega) HM1.out.2.2.2.2.1 H2.out.1 H2.out.2 (permIn_refl d2 mid b) HR3.out
                    exact ⟨rfl, d2, S3, permIn_trans _ _ _ _ _ (permIn_mono d d1 i e a b hE.2.1 hE.2.2.2.2.2.2 hb H1.out.1) q1, q2⟩
                  · have u1 : decide (mid < e) = false := by simp; omega
                    go_wp2
                    go_end0
                    have hz1 := H1.out.1.1
                    have hE := HE.out
                    obtain ⟨q1, q2⟩ := two_parts (by omega) (by omega) (by omega) HM1.out.2.2.2.2.1 H2.out.1 H2.out.2 (permIn_refl d2 mid b) HR3.out
                    exact ⟨rfl, d2, S3, permIn_trans _ _ _ _ _ (permIn_mono d d1 i e a b hE.2.1 hE.2.2.2.2.2.2 hb H1.out.1) q1, q2⟩
              · have u1 : decide (a < i) = false := by simp; omega
                obtain ⟨d2, H2, HZ2, S3⟩ : ∃ d2, Hid (PermIn a mid d1 d2 ∧ SrtK cf rk a mid d2) ∧ Hid (d2.size = d.size) ∧ Aside (SW (encK rk) w0 blk off d2 wr) := ⟨d1, Lib.hid ⟨permIn_refl d1 a mid, srt_join HM1.out.1 HM1.out.2.1 (by have := HG2.out; have := HE.out; omega)⟩, HZ1, S2⟩
                clear S2
                by_cases g3 : mid < e ∧ e < b
                · obtain ⟨g3a, g3b⟩ := g3
                  have u1 : decide (mid < e) = true := by simp; omega
                  have u2 : decide (e < b) = true := by simp; omega
                  go_wp2_with fail
                  obtain ⟨f1, f2, f3⟩ := (HM1.out).right H2.out.1 (by omega) (by omega)
                  have hz := HZ2.out
                  have HK := HIH.out mid e b d2 _ (by omega) (HS.out.trans hz.symm) S3.out g3a g3b (by omega) f1 f2 f3
                  rw [hz] at HK
                  clear hz f1 f2 f3
                  refine HK.mono ?_
                  clear HK S3
                  rintro e' w4 ⟨rfl, d3, S4, hp4, hr4⟩
                  have S4 : Aside (SW (encK rk) w0 blk off d3 w4) := S4
                  have H4 : Hid (PermIn mid b d2 d3 ∧ SrtK cf rk mid b d3) := ⟨hp4, hr4⟩
                  clear hp4 hr4
                  go_wp2
                  go_end0
                  have hz1 := H1.out.1.1
                  have hE := HE.out
                  obtain ⟨q1, q2⟩ := two_parts (by omega) (by omega) (by omega) HM1.out.2.2.2.2.1 H2.out.1 H2.out.2 H4.out.1 H4.out.2
                  exact ⟨rfl, d3, S4, permIn_trans _ _ _ _ _ (permIn_mono d d1 i e a b hE.2.1 hE.2.2.2.2.2.2 hb H1.out.1) q1, q2⟩
                · have hE := HE.out
                  obtain ⟨f1, f2, f3⟩ := (HM1.out).right H2.out.1 (by omega) (by omega)
                  have HR3 : Hid (SrtK cf rk mid b d2) := Lib.hid (srt_join f1 f2 (by omega))
                  clear f1 f2 f3 hE
                  have HG3 : Hid (¬ (mid < e ∧ e < b)) := g3
                  clear g3
                  by_cases g4 : mid < e
                  · have u1 : decide (mid < e) = true := by simp; omega
                    have u2 : decide (e < b) = false := by have := HG3.out; simp; omega
                    go_wp2
                    go_end0
                    have hz1 := H1.out.1.1
                    have hE := HE.out
                    obtain ⟨q1, q2⟩ := two_parts (by omega) (by omega) (by omega) HM1.out.2.2.2.2.1 H2.out.1 H2.out.2 (permIn_refl d2 mid b) HR3.out
                    exact ⟨rfl, d2, S3, permIn_trans _ _ _ _ _ (permIn_mono d d1 i e a b hE.2.1 hE.2.2.2.2.2.2 hb H1.out.1) q1, q2⟩
                  · have u1 : decide (mid < e) = false := by simp; omega
                    go_wp2
                    go_end0
                    have hz1 := H1.out.1.1
                    have hE := HE.out
                    obtain ⟨q1, q2⟩ := two_parts (by omega) (by omega) (by omega) HM1.out.2.2.2.2.1 H2.out.1 H2.out.2 (permIn_refl d2 mid b) HR3.out
                    exact ⟨rfl, d2, S3, permIn_trans _ _ _ _ _ (permIn_mono d d1 i e a b hE.2.1 hE.2.2.2.2.2.2 hb H1.out.1) q1, q2⟩

/-- Two ascending parts are merged. -/
theorem symMerge_any (h : CmpOk cf rk) (eg : ∀ args w, (callFunc g args).run Tryd.prog w = .ok (.enter g args) w) (hcmp : CmpLays1 Tryd.prog g cb (encK rk) cf blk off d0.size w0)
    (R : Row1 (encK rk) w0 blk off d0) (hsz : d0.size < 4611686018427387904) (N : Nat) : SymIH cf rk w0 blk off cap g cb d0 N := by
  induction N with
  | zero => intro a m b d w hN; omega
  | succ N ih =>
    intro a m b d w hN hs S ham hmb hb h1 h2 hco
    by_cases c1 : m = a + 1
    · subst c1; exact sym_left a (a + 1) b rfl h eg hcmp R hs S hmb hb (by omega) h2 hco
    · by_cases c2 : b = m + 1
      · subst c2; exact sym_right a m (m + 1) rfl (by omega) h eg hcmp R hs S hb (by omega) h1 hco
      · exact sym_main a m b (by omega) (by omega) h eg hcmp R (fun a' m' b' d' w' hN' => ih a' m' b' d' w' (by omega)) hs S hb (by omega) h1 h2 hco
end
end Go.Proofs.YtccpelfnkjckiaaDoor
