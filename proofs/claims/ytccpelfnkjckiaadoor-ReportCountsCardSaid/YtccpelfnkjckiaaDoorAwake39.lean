/-
  WALK: interleavelaw39.awake: the example of chapter 39.
-/
import Derived.Test.YtccpelfnkjckiaaDoorRepGrp
import Derived.Test.YtccpelfnkjckiaaDoorRepLaw
import Derived.Test.YtccpelfnkjckiaaDoorRepFmt
import Derived.Test.YtccpelfnkjckiaaDoorSame
import Derived.Test.YtccpelfnkjckiaaDoorLit
import Derived.Laws.MakeOwn
namespace Go.Proofs.YtccpelfnkjckiaaDoor
open Go.RowKit

theorem info_choice : (Tryd.prog.info? 195).map (fun i => (i.zero, i.size, i.bytes)) = some (some (.agg #[.int .i64 0, .int .i64 0]), 2, 16) := by kernel_rfl
theorem mk_choices (n : Nat) (h : n ≤ 1000000) : ∃ cs : Array Value, ∀ w : World, (Instr.makeSlice 53 (.int .i64 (n : Int)) (.int .i64 (n : Int))).run Tryd.prog w = .ok (.slice (some ⟨w.heap.size, 0, none⟩) n n) (w.alloc (.cells cs 195)) := by
  obtain ⟨i, hi, h0, h1, h2⟩ := info_parts info_choice
  refine ⟨madeCells (Value.agg #[.int .i64 0, .int .i64 0]).cells (n * i.size), fun w => ?_⟩
  have hb : (i.bytes : Int) * (n : Int) ≤ 281474976710656 := by rw [h2]; omega
  have hr := run_make (P := Tryd.prog) w 53 195 i _ Tryd.underlying53 hi h0 .i64 .i64 n n (by omega) (by omega) hb (by omega)
  simp only [Int.toNat_natCast] at hr
  exact hr

def awF1 : Fnd := ⟨0, 1, true, 5, [0, 1]⟩
def awF2 : Fnd := ⟨16, 1, true, 3, [0, 1]⟩
def awR : Rep := ⟨1, [0, 1], [0, 16], 2, 1, 817⟩
theorem awRep : repOf [awF1, awF2] [0, 1] = awR := by
  have h : startsOf [awF1, awF2] [0, 1] = [0, 16] := by
    obtain ⟨h1, h2⟩ := compact_sort ([0, 1].map (stOf [awF1, awF2]))
    refine asc_ext h1 (by simp [Asc]) fun x => ?_
    show x ∈ Lib.compact (([0, 1].map (stOf [awF1, awF2])).mergeSort fun x y => decide (x ≤ y)) ↔ _
    rw [h2]
    simp [stOf, awF1, awF2]
  unfold repOf
  rw [h]
  rfl
theorem awReps (m1 m2 : FndM) (rs : List Rep) (h : IsReports [(awF1, m1), (awF2, m2)] rs) : rs = [awR] := by
  refine reports_unique h ⟨[[0, 1]], ?_, by simp, ?_, ?_, by simp, by simp⟩
  · show [awR].Perm [repOf [awF1, awF2] [0, 1]]
    rw [awRep]
  · intro g hg
    rw [List.mem_singleton] at hg
    subst hg
    refine ⟨by simp, fun i hi j hj => ?_⟩
    have key : ∀ x ∈ [0, 1], keyI [(awF1, m1), (awF2, m2)] x = some [1, 0, 1] := by
      intro x hx
      simp only [List.mem_cons, List.not_mem_nil, or_false] at hx
      rcases hx with rfl | rfl <;> rfl
    rw [key i hi, key j hj]
  · exact List.Perm.refl _
theorem itoa817 : Lib.itoa 817 = [56, 49, 55] := by
  unfold Lib.itoa
  rw [if_neg (by omega), show (817 : Int).toNat = 817 from rfl, Lib.decDigits, dif_neg (by omega), Lib.decDigits_two (by omega) (by omega)]
  rfl
theorem itoa12 : Lib.itoa 12 = [49, 50] := by
  unfold Lib.itoa
  rw [if_neg (by omega), show (12 : Int).toNat = 12 from rfl, Lib.decDigits_two (by omega) (by omega)]
  rfl
theorem itoa2 : Lib.itoa 2 = [50] := by
  unfold Lib.itoa
  rw [if_neg (by omega), show (2 : Int).toNat = 2 from rfl, Lib.decDigits_one (by omega)]
  rfl
theorem itoa7 : Lib.itoa 7 = [55] := by
  unfold Lib.itoa
  rw [if_neg (by omega), show (7 : Int).toNat = 7 from rfl, Lib.decDigits_one (by omega)]
  rfl
def awThr : List (List UInt8) := [[109, 97, 105, 110], [119, 111, 114, 107, 101, 114]]
def awSts : List Diff := [⟨0, 0, 7⟩, ⟨1, 0, 12⟩]
theorem awText39 : repsText awThr awSts [awR] = [114, 97, 99, 101, 32, 56, 49, 55, 32, 50, 32, 109, 97, 105, 110, 58, 55, 32, 119, 111, 114, 107, 101, 114, 58, 49, 50, 10] := by
  have h0 : siteText awThr awSts 0 = [109, 97, 105, 110, 58, 55] := by
    have := siteText_at (thr := awThr) (sts := awSts) (k := 0) (t := 0) (d := ⟨0, 0, 7⟩) (s := [109, 97, 105, 110]) rfl rfl rfl
    rw [show ((0 : Nat) : Int) = 0 from rfl] at this
    rw [this, itoa7]; rfl
  have h1 : siteText awThr awSts 1 = [119, 111, 114, 107, 101, 114, 58, 49, 50] := by
    have := siteText_at (thr := awThr) (sts := awSts) (k := 1) (t := 1) (d := ⟨1, 0, 12⟩) (s := [119, 111, 114, 107, 101, 114]) rfl rfl rfl
    rw [show ((1 : Nat) : Int) = 1 from rfl] at this
    rw [this, itoa12]; rfl
  simp [repsText, repLine, headOf, sitesText, awR, kindWord, itoa817, itoa2, h0, h1]
def awM1 (H : Nat) : FndM := ⟨0, 0, 0, 0, none, 0, 0, some ⟨H, 0, none⟩, 5, none, 0, 0, 0, some ⟨H + 1 + 1 + 1, 0, none⟩, 2⟩
def awM2 (H : Nat) : FndM := ⟨0, 0, 0, 0, none, 0, 0, some ⟨H, 0, none⟩, 5, none, 0, 0, 0, some ⟨H + 1 + 1 + 1 + 1, 0, none⟩, 2⟩

set_option maxRecDepth 100000 in
set_option maxHeartbeats 4000000 in
theorem awake39 (w : World) (hT : Tab w) (hW : WordsAt w) : Calls Tryd.prog 18 #[] w fun e w' => e = .returned (.bool true) ∧ Below w.heap.size w w' := by
  have HT := Lib.hid hT
  have HW := Lib.hid hW
  clear hT hW
  obtain ⟨cs, hmk⟩ := mk_choices 5 (by omega)
  have mk : ∀ w : World, (Instr.makeSlice 53 (.int .i64 5) (.int .i64 5)).run Tryd.prog w = .ok (.slice (some ⟨w.heap.size, 0, none⟩) 5 5) (w.alloc (.cells cs 195)) := fun w => by simpa using hmk w
  clear hmk
  go_enter Tryd.func18, Tryd.ntmps18
  go_wp2_with fail
  clear mk
  have hb0 : Below w.heap.size w ((((((w.alloc (.cells cs 195)).alloc (.cells #[.int .i64 1, .int .i64 0, .int .i64 0, .int .i64 0, .int .i64 0, .slice none 0 0, .bool true, .slice (some ⟨w.heap.size, 0, none⟩) 5 5, .slice none 0 0, .int .i64 0] 56)).alloc (.cells #[.int .i64 1, .int .i64 0, .int .i64 0, .int .i64 0, .int .i64 0, .slice none 0 0, .bool true, .slice (some ⟨w.heap.size, 0, none⟩) 3 5, .slice none 0 0, .int .i64 0] 56)).alloc (.cells #[.int .i64 0, .int .i64 1] 3)).alloc (.cells #[.int .i64 0, .int .i64 1] 3)).alloc (.cells #[.int .i64 0, .int .i64 1, .int .i64 0, .int .i64 0, .int .i64 0, .int .i64 0, .slice none 0 0, .bool true, .slice (some ⟨w.heap.size, 0, none⟩) 5 5, .slice none 0 0, .int .i64 0, .slice (some ⟨w.heap.size + 1 + 1 + 1, 0, none⟩) 2 2, .int .i64 16, .int .i64 1, .int .i64 0, .int .i64 0, .int .i64 0, .int .i64 0, .slice none 0 0, .bool true, .slice (some ⟨w.heap.size, 0, none⟩) 3 5, .slice none 0 0, .int .i64 0, .slice (some ⟨w.heap.size + 1 + 1 + 1 + 1, 0, none⟩) 2 2] 58)) := by go_grown
  have hsz : ((((((w.alloc (.cells cs 195)).alloc (.cells #[.int .i64 1, .int .i64 0, .int .i64 0, .int .i64 0, .int .i64 0, .slice none 0 0, .bool true, .slice (some ⟨w.heap.size, 0, none⟩) 5 5, .slice none 0 0, .int .i64 0] 56)).alloc (.cells #[.int .i64 1, .int .i64 0, .int .i64 0, .int .i64 0, .int .i64 0, .slice none 0 0, .bool true, .slice (some ⟨w.heap.size, 0, none⟩) 3 5, .slice none 0 0, .int .i64 0] 56)).alloc (.cells #[.int .i64 0, .int .i64 1] 3)).alloc (.cells #[.int .i64 0, .int .i64 1] 3)).alloc (.cells #[.int .i64 0, .int .i64 1, .int .i64 0, .int .i64 0, .int .i64 0, .int .i64 0, .slice none 0 0, .bool true, .slice (some ⟨w.heap.size, 0, none⟩) 5 5, .slice none 0 0, .int .i64 0, .slice (some ⟨w.heap.size + 1 + 1 + 1, 0, none⟩) 2 2, .int .i64 16, .int .i64 1, .int .i64 0, .int .i64 0, .int .i64 0, .int .i64 0, .slice none 0 0, .bool true, .slice (some ⟨w.heap.size, 0, none⟩) 3 5, .slice none 0 0, .int .i64 0, .slice (some ⟨w.heap.size + 1 + 1 + 1 + 1, 0, none⟩) 2 2] 58)).heap.size = w.heap.size + 6 := by simp
  obtain ⟨v1, hv1⟩ : ∃ v1 : World, v1 = (((w.alloc (.cells cs 195)).alloc (.cells #[.int .i64 1, .int .i64 0, .int .i64 0, .int .i64 0, .int .i64 0, .slice none 0 0, .bool true, .slice (some ⟨w.heap.size, 0, none⟩) 5 5, .slice none 0 0, .int .i64 0] 56)).alloc (.cells #[.int .i64 1, .int .i64 0, .int .i64 0, .int .i64 0, .int .i64 0, .slice none 0 0, .bool true, .slice (some ⟨w.heap.size, 0, none⟩) 3 5, .slice none 0 0, .int .i64 0] 56)) := ⟨_, rfl⟩
  have hz1 : v1.heap.size = w.heap.size + 1 + 1 + 1 := by rw [hv1]; simp
  rw [← hv1] at hb0 hsz ⊢
  clear hv1
  have B3 := ((Blk.new v1 3 #[.int .i64 0, .int .i64 1]).alloc (.cells #[.int .i64 0, .int .i64 1] 3)).alloc (.cells #[.int .i64 0, .int .i64 1, .int .i64 0, .int .i64 0, .int .i64 0, .int .i64 0, .slice none 0 0, .bool true, .slice (some ⟨w.heap.size, 0, none⟩) 5 5, .slice none 0 0, .int .i64 0, .slice (some ⟨w.heap.size + 1 + 1 + 1, 0, none⟩) 2 2, .int .i64 16, .int .i64 1, .int .i64 0, .int .i64 0, .int .i64 0, .int .i64 0, .slice none 0 0, .bool true, .slice (some ⟨w.heap.size, 0, none⟩) 3 5, .slice none 0 0, .int .i64 0, .slice (some ⟨w.heap.size + 1 + 1 + 1 + 1, 0, none⟩) 2 2] 58)
  have B4 := (Blk.new (v1.alloc (.cells #[.int .i64 0, .int .i64 1] 3)) 3 #[.int .i64 0, .int .i64 1]).alloc (.cells #[.int .i64 0, .int .i64 1, .int .i64 0, .int .i64 0, .int .i64 0, .int .i64 0, .slice none 0 0, .bool true, .slice (some ⟨w.heap.size, 0, none⟩) 5 5, .slice none 0 0, .int .i64 0, .slice (some ⟨w.heap.size + 1 + 1 + 1, 0, none⟩) 2 2, .int .i64 16, .int .i64 1, .int .i64 0, .int .i64 0, .int .i64 0, .int .i64 0, .slice none 0 0, .bool true, .slice (some ⟨w.heap.size, 0, none⟩) 3 5, .slice none 0 0, .int .i64 0, .slice (some ⟨w.heap.size + 1 + 1 + 1 + 1, 0, none⟩) 2 2] 58)
  have B5 := Blk.new ((v1.alloc (.cells #[.int .i64 0, .int .i64 1] 3)).alloc (.cells #[.int .i64 0, .int .i64 1] 3)) 58 #[.int .i64 0, .int .i64 1, .int .i64 0, .int .i64 0, .int .i64 0, .int .i64 0, .slice none 0 0, .bool true, .slice (some ⟨w.heap.size, 0, none⟩) 5 5, .slice none 0 0, .int .i64 0, .slice (some ⟨w.heap.size + 1 + 1 + 1, 0, none⟩) 2 2, .int .i64 16, .int .i64 1, .int .i64 0, .int .i64 0, .int .i64 0, .int .i64 0, .slice none 0 0, .bool true, .slice (some ⟨w.heap.size, 0, none⟩) 3 5, .slice none 0 0, .int .i64 0, .slice (some ⟨w.heap.size + 1 + 1 + 1 + 1, 0, none⟩) 2 2]
  simp only [World.size_alloc, hz1] at B3 B4 B5
  generalize (((v1.alloc (.cells #[.int .i64 0, .int .i64 1] 3)).alloc (.cells #[.int .i64 0, .int .i64 1] 3)).alloc (.cells #[.int .i64 0, .int .i64 1, .int .i64 0, .int .i64 0, .int .i64 0, .int .i64 0, .slice none 0 0, .bool true, .slice (some ⟨w.heap.size, 0, none⟩) 5 5, .slice none 0 0, .int .i64 0, .slice (some ⟨w.heap.size + 1 + 1 + 1, 0, none⟩) 2 2, .int .i64 16, .int .i64 1, .int .i64 0, .int .i64 0, .int .i64 0, .int .i64 0, .slice none 0 0, .bool true, .slice (some ⟨w.heap.size, 0, none⟩) 3 5, .slice none 0 0, .int .i64 0, .slice (some ⟨w.heap.size + 1 + 1 + 1 + 1, 0, none⟩) 2 2] 58)) = W at *
  have HRD : Hid (Rd W (some ⟨w.heap.size + 1 + 1 + 1 + 1 + 1, 0, none⟩) ([(awF1, awM1 w.heap.size), (awF2, awM2 w.heap.size)].flatMap Fnd.cells)) := Lib.hid (fun _ => ⟨_, 0, rfl, B5.lt, fun j u hu => by
    rw [B5.cell, Nat.zero_add]
    rw [List.getElem?_toArray]
    exact hu⟩)
  have HI3 : Ints W (.slice (some ⟨w.heap.size + 1 + 1 + 1, 0, none⟩) 2 2) [0, 1] := ints_lit (xs := [0, 1]) B3 (Below.refl _ _) (by simp [I64]) (by simp [maxLen])
  have HI4 : Ints W (.slice (some ⟨w.heap.size + 1 + 1 + 1 + 1, 0, none⟩) 2 2) [0, 1] := ints_lit (xs := [0, 1]) B4 (Below.refl _ _) (by simp [I64]) (by simp [maxLen])
  have HOK : Hid (∀ q ∈ [(awF1, awM1 w.heap.size), (awF2, awM2 w.heap.size)], FndOk W q) := Lib.hid (fun q hq => by
    simp only [List.mem_cons, List.not_mem_nil, or_false] at hq
    rcases hq with rfl | rfl
    · exact ⟨HI3, by simp [awF1, I64], by simp [awF1, I64], by simp [awF1, maxLen]⟩
    · exact ⟨HI4, by simp [awF2, I64], by simp [awF2, I64], by simp [awF2, maxLen]⟩)
  have HB0 := Lib.hid hb0
  clear hz1 hsz B3 B4 B5 HI3 HI4 hb0
  refine (group_any [(awF1, awM1 w.heap.size), (awF2, awM2 w.heap.size)] _ 2 W HRD.out HOK.out (by simp) (by simp [awF1, awF2])).mono ?_
  rintro e w2 ⟨v, qs, rfl, hown, hrep, hb2⟩
  have hq := awReps _ _ _ hrep
  obtain ⟨q, rfl⟩ : ∃ q, qs = [q] := by
    cases qs with
    | nil => simp at hq
    | cons a t => cases t with
      | nil => exact ⟨a, rfl⟩
      | cons b t => simp at hq
  have hq1 : q.1 = awR := by simpa using hq
  obtain ⟨A, c, hv, hc1, hc2, hrd⟩ := owns_rd hown.1
  have HRP : Hid (Reps w2 v [awR]) := Lib.hid (by have h := hown.reps; rwa [hq] at h)
  subst hv
  obtain ⟨b, off, hA, hbl, hci⟩ := Reps.at_ (k := 0) hrd (p := q) rfl
  obtain ⟨-, hi2, -⟩ := hown.2 q (by simp)
  obtain ⟨q, sv, tv⟩ := q
  simp only at hq1
  subst hq1 hA
  obtain ⟨A2, c2, htv, -, -, -, -⟩ := hi2.ints
  simp only at htv
  subst htv
  have HI2 : Hid (Ints w2 (.slice A2 awR.starts.length c2) [0, 16]) := Lib.hid hi2.ints
  obtain ⟨k0, k1, k2, k3, k4, k5⟩ := hci
  simp only [Nat.zero_mul, Nat.add_zero] at k0 k1 k2 k3 k4 k5
  have e3 : w2.cell? ⟨b, off + 3, none⟩ = some (.int .i64 2) := k3
  have e4 : w2.cell? ⟨b, off + 4, none⟩ = some (.int .i64 1) := k4
  have e5 : w2.cell? ⟨b, off + 5, none⟩ = some (.int .i64 817) := k5
  have e2 : w2.cell? ⟨b, off + 2, none⟩ = some (.slice A2 2 c2) := k2
  have HI2' : Hid (Ints w2 (.slice A2 2 c2) [0, 16]) := HI2
  have HRP' : Hid (Reps w2 (.slice (some ⟨b, off, none⟩) 1 c) [awR]) := HRP
  have HB2 : Hid (Below w.heap.size w w2) := Lib.hid (HB0.out.trans (hb2.mono HB0.out.size))
  have hc3 : 1 ≤ c := hc1
  unfold maxLen at hc2
  simp only [List.length_singleton]
  clear k0 k1 k2 k3 k4 k5 hrd hown hrep hq hb2 hi2 HRP HI2
  go_upto_region 6 with fail
  obtain ⟨w5, hw5⟩ : ∃ w5 : World, w5 = ((w2.alloc (.cells #[.string ⟨#[109, 97, 105, 110]⟩, .string ⟨#[119, 111, 114, 107, 101, 114]⟩] 9)).alloc (.cells #[.int .i64 0, .int .i64 0, .int .i64 7, .int .i64 1, .int .i64 0, .int .i64 12] 90)).alloc (.cells #[.slice none 0 0, .slice none 0 0, .slice none 0 0, .slice none 0 0, .slice (some ⟨w2.heap.size, 0, none⟩) 2 2, .slice (some ⟨w2.heap.size + 1, 0, none⟩) 2 2] 70) := ⟨_, rfl⟩
  have HB5 : Hid (Below w2.heap.size w2 w5) := by rw [hw5]; exact Lib.hid (by go_grown)
  have T0 : Blk w5 w2.heap.size 9 #[.string ⟨#[109, 97, 105, 110]⟩, .string ⟨#[119, 111, 114, 107, 101, 114]⟩] := by rw [hw5]; exact ((Blk.new w2 _ _).alloc _).alloc _
  have T1 : Blk w5 (w2.heap.size + 1) 90 #[.int .i64 0, .int .i64 0, .int .i64 7, .int .i64 1, .int .i64 0, .int .i64 12] := by
    have h := Blk.new (w2.alloc (.cells #[.string ⟨#[109, 97, 105, 110]⟩, .string ⟨#[119, 111, 114, 107, 101, 114]⟩] 9)) 90 #[.int .i64 0, .int .i64 0, .int .i64 7, .int .i64 1, .int .i64 0, .int .i64 12]
    rw [World.size_alloc] at h
    rw [hw5]; exact h.alloc _
  have T2 : Blk w5 (w2.heap.size + 1 + 1) 70 #[.slice none 0 0, .slice none 0 0, .slice none 0 0, .slice none 0 0, .slice (some ⟨w2.heap.size, 0, none⟩) 2 2, .slice (some ⟨w2.heap.size + 1, 0, none⟩) 2 2] := by
    have h := Blk.new ((w2.alloc (.cells #[.string ⟨#[109, 97, 105, 110]⟩, .string ⟨#[119, 111, 114, 107, 101, 114]⟩] 9)).alloc (.cells #[.int .i64 0, .int .i64 0, .int .i64 7, .int .i64 1, .int .i64 0, .int .i64 12] 90)) 70 #[.slice none 0 0, .slice none 0 0, .slice none 0 0, .slice none 0 0, .slice (some ⟨w2.heap.size, 0, none⟩) 2 2, .slice (some ⟨w2.heap.size + 1, 0, none⟩) 2 2]
    rw [World.size_alloc, World.size_alloc] at h
    rw [hw5]; exact h
  rw [← hw5]
  have hz5 : w2.heap.size + 3 ≤ w5.heap.size := by rw [hw5]; simp
  clear hw5
  have d2 := (HB5.out.cell (p := ⟨b, off + 2, none⟩) hbl).trans e2
  have d3 := (HB5.out.cell (p := ⟨b, off + 3, none⟩) hbl).trans e3
  have d4 := (HB5.out.cell (p := ⟨b, off + 4, none⟩) hbl).trans e4
  have d5 := (HB5.out.cell (p := ⟨b, off + 5, none⟩) hbl).trans e5
  have HWL : Hid (IsWld w5 (.agg #[.slice none 0 0, .slice none 0 0, .slice none 0 0, .slice none 0 0, .slice (some ⟨w2.heap.size, 0, none⟩) 2 2, .slice (some ⟨w2.heap.size + 1, 0, none⟩) 2 2]) awThr awSts) := Lib.hid ⟨_, _, _, _, _, _, rfl, ⟨_, 2, rfl, Nat.le_refl _, by simp [maxLen], by simp [awThr], fun _ => ⟨w2.heap.size, 0, rfl, T0.lt, fun j u hu => by
    rw [T0.cell, Nat.zero_add, List.getElem?_toArray]; exact hu⟩⟩, ⟨_, 2, rfl, Nat.le_refl _, by simp [maxLen], by simp [awSts, Diff.ok, I64], fun _ => ⟨w2.heap.size + 1, 0, rfl, T1.lt, fun j u hu => by
    rw [T1.cell, Nat.zero_add, List.getElem?_toArray]; exact hu⟩⟩⟩
  have HT5 : Hid (Tab w5) := Lib.hid (HT.out.keep (HB2.out.trans (HB5.out.mono HB2.out.size)) HT.out.lt)
  have HW5 : Hid (WordsAt w5) := Lib.hid (HW.out.keep (HB2.out.trans (HB5.out.mono HB2.out.size)) HW.out.1)
  have HT2 := Lib.hid T2
  have hb5 : b < w5.heap.size := Nat.lt_of_lt_of_le hbl HB5.out.size
  clear e2 e3 e4 e5 T0 T1 T2
  go_wp2_with fail
  refine (same_any _ _ [0, 16] [0, 16] _ ?h1 ?h2).mono ?_
  case h1 => exact (HI2'.out.keep HB5.out).keep (by go_grown)
  case h2 => exact ints_lit (xs := [0, 16]) (Blk.new w5 3 #[.int .i64 0, .int .i64 16]) (Below.refl _ _) (by simp [I64]) (by simp [maxLen])
  rintro e w6 ⟨rfl, n6, rfl⟩
  rw [show decide (([0, 16] : List Int) = [0, 16]) = true from rfl]
  have HB6 : Hid (Below w5.heap.size w5 ((w5.alloc (.cells #[.int .i64 0, .int .i64 16] 3)).drewN n6)) := Lib.hid (bdrew ((Below.refl _ _).alloc (Nat.le_refl _) _) n6)
  have HT6 := HT2.out.keep HB6.out
  have r0 := HT6.cell 0
  have r1 := HT6.cell 1
  have r2 := HT6.cell 2
  have r3 := HT6.cell 3
  have r4 := HT6.cell 4
  have r5 := HT6.cell 5
  simp only [List.getElem?_toArray, List.getElem?_cons_zero, List.getElem?_cons_succ] at r0 r1 r2 r3 r4 r5
  generalize (w5.alloc (.cells #[.int .i64 0, .int .i64 16] 3)).drewN n6 = w6 at *
  clear HT6 d2 d3 d4 d5
  go_wp2_with fail
  refine (rpformat_any _ _ awThr awSts [awR] _ (HWL.out.keep HB6.out) ((HRP'.out.keep HB5.out).keep HB6.out) (HT5.out.keep HB6.out HT5.out.lt) (HW5.out.keep HB6.out HW5.out.1) (by simp [awThr]) (by simp [repsSize, awR])).mono ?_
  rintro e w7 ⟨rfl, hb7⟩
  rw [awText39]
  have HB7 := Lib.hid hb7
  clear hb7 r0 r1 r2 r3 r4 r5
  go_wp2_with fail
  go_ret
  exact ⟨rfl, (HB2.out.trans (HB5.out.mono HB2.out.size)).trans ((HB6.out.trans (HB7.out.mono HB6.out.size)).mono (Nat.le_trans HB2.out.size HB5.out.size))⟩
/-- awake, in a world that a law has come to. -/
theorem awake39_from {w : World} (hT : Tab w) (hW : WordsAt w) : ∀ w', Below w.heap.size w w' → Calls Tryd.prog 18 #[] w' fun e w'' => e = .returned (.bool true) ∧ Below w.heap.size w w'' := fun w' hb => by
  refine (awake39 w' (hT.keep hb hT.lt) (hW.keep hb hW.1)).mono ?_
  rintro e w'' ⟨rfl, h⟩
  exact ⟨rfl, hb.trans (h.mono hb.size)⟩
end Go.Proofs.YtccpelfnkjckiaaDoor
