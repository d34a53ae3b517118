/-
  WALK: interleaveref31.Lines.
-/
import Derived.Test.YtfffalfnjficaaaDoorRefNums
import Derived.Deep.RegionHeld3
import Derived.Deep.Cut
import Derived.Deep.RegionLaw
namespace Go.Proofs.YtfffalfnjficaaaDoor
open Go.RowKit

/-- What Lines answers. -/
def LinesRet (w : World) (s : List UInt8) (e : Ending) (w' : World) : Prop :=
  ∃ A k last ls, pieces 10 s = ls ++ [last] ∧ e = .returned (.tuple #[.slice A ls.length k, .string ⟨last.toArray⟩]) ∧ Txts w' (.slice A ls.length k) ls ∧ Below w.heap.size w w' ∧ ∀ b off, A = some ⟨b, off, none⟩ → w.heap.size ≤ b
theorem cut_toT (A : Option Addr) (n c k : Nat) (hk : k ≤ n) (hn : n ≤ c) : ∀ w, (Instr.slice 58 (.slice A n c) none (some (.int .i64 (k : Int))) none).run Tryd.prog w = .ok (.slice A k c) w := by
  intro w
  rw [run_slice_h (P := Tryd.prog) (w := w) 58 _ n c (by kernel_rfl) .i64 (k : Int) (by omega) (by omega), show (sizeOf (Tryd.prog.elem 58)).run Tryd.prog w = .ok 1 w by kernel_rfl]
  cases A <;> simp [Result.andThen, sliced, Int.toNat_natCast, Addr.add]
set_option maxRecDepth 100000 in
set_option maxHeartbeats 4000000 in
theorem rlines_any (s : List UInt8) (w : World) (hl : s.length ≤ 900000) (hp : PL w) :
    Calls Tryd.prog 25 #[.string ⟨s.toArray⟩] w (LinesRet w s) := by
  have HPL := Lib.hid hp
  obtain ⟨last, ls, hls⟩ : ∃ last ls, pieces 10 s = ls ++ [last] := ⟨(pieces 10 s).getLast (pieces_ne 10 s), (pieces 10 s).dropLast, (List.dropLast_concat_getLast (pieces_ne 10 s)).symm⟩
  have hpl := pieces_len 10 s
  obtain ⟨n, hn⟩ : ∃ n, (pieces 10 s).length = n := ⟨_, rfl⟩
  obtain ⟨m, hm⟩ : ∃ m, ls.length = m := ⟨_, rfl⟩
  have hnm : n = m + 1 := by rw [← hn, hls, List.length_append, hm]; rfl
  have HNM := Lib.hid hnm
  have HN := Lib.hid hn
  have HLS := Lib.hid hls
  have HM := Lib.hid hm
  rw [hn] at hpl
  clear hp hls hn hm hnm
  go_enter Tryd.func25, Tryd.ntmps25
  go_wp2_with fail
  refine (split_new 10 s w (by omega) HPL.out.ml).mono ?_
  rintro e w1 ⟨k, rfl, htx, hb1⟩
  obtain ⟨A, hA⟩ : ∃ A, A = some (⟨w.heap.size, 0, none⟩ : Addr) := ⟨_, rfl⟩
  rw [← hA] at htx ⊢
  have HA := Lib.hid hA
  clear hA
  rw [HN.out] at htx ⊢
  obtain ⟨A', c', ex, kx1, kx2, hrd⟩ := htx
  injection ex with ex1 ex2 ex3
  subst ex1 ex3
  rw [← ex2] at kx1
  obtain ⟨b, off, rfl, hb, hc⟩ := hrd.at_ (k := m) (u := .string ⟨last.toArray⟩) (by rw [HLS.out, List.map_append, List.getElem?_append_right (by simp [HM.out]), List.length_map, HM.out, Nat.sub_self]; rfl)
  have HRD := Lib.hid hrd
  have HB1 := Lib.hid hb1
  unfold maxLen at kx2
  have hmn : m < n := by have := HNM.out; omega
  have ct := cut_toT (some ⟨b, off, none⟩) n k m (by omega) kx1
  have hwr : IntKind.i64.wrap ((n : Int) - 1) = (m : Int) := by rw [show ((n : Int) - 1) = (m : Int) by have := HNM.out; omega]; exact IntWalk.i64_in _ (by omega)
  clear hb1 hrd ex2
  go_upto_region 2 with fail
  go_region_held3 (fun w' => w'.cell? ⟨b, off + m, none⟩ = some (.string ⟨last.toArray⟩)) (go_keep) (fail)
  go_wp2_with fail
  go_ret2
  refine ⟨some ⟨b, off, none⟩, k, last, ls, HLS.out, by rw [HM.out]; rfl, ⟨_, k, rfl, by rw [HM.out]; omega, by unfold maxLen; omega, ?_⟩, HB1.out.drew, fun b2 o2 e => ?_⟩
  rotate_left
  · rw [HA.out] at e
    injection e with e
    injection e with e _ _
    omega
  intro _
  obtain ⟨b', off', e, h1, h2⟩ := HRD.out (by rw [HLS.out]; simp)
  injection e with e
  injection e with e1 e2 _
  subst e1 e2
  refine ⟨b, off, rfl, h1, fun j u hu => ?_⟩
  refine (h2 j u ?_)
  rw [HLS.out, List.map_append, List.getElem?_append_left (List.getElem?_eq_some_iff.1 hu).1]
  exact hu
end Go.Proofs.YtfffalfnjficaaaDoor
