/-
  WALK: interleaveref16.words.
-/
import Derived.Test.YtmnjmegejaejlaaDoorTT39
namespace Go.Proofs.YtmnjmegejaejlaaDoor
open Go.RowKit

theorem info_str : (Tryd.prog.info? 9).map (fun i => (i.zero, i.size, i.bytes)) = some (some (.string ⟨#[]⟩), 1, 16) := by kernel_rfl
/-- s[i:j] and s[i:] of a text. -/
theorem str_cut (s : List UInt8) (i j : Nat) (h1 : i ≤ j) (h2 : j ≤ s.length) (w : World) : (Instr.slice 9 (.string ⟨s.toArray⟩) (some (.int .i64 (i : Int))) (some (.int .i64 (j : Int))) none).run Tryd.prog w = .ok (.string ⟨((s.drop i).take (j - i)).toArray⟩) w := by
  have hsz : (⟨s.toArray⟩ : ByteArray).size = s.length := by simp [ByteArray.size]
  rw [run_slice_string (P := Tryd.prog) w 9 ⟨s.toArray⟩ .i64 .i64 i j Tryd.underlying9 (by omega) (by omega) (by rw [hsz]; omega)]
  simp only [Int.toNat_natCast]
  rw [ByteArray.extract_mk]
theorem str_from (s : List UInt8) (i : Nat) (h1 : i ≤ s.length) (w : World) : (Instr.slice 9 (.string ⟨s.toArray⟩) (some (.int .i64 (i : Int))) none none).run Tryd.prog w = .ok (.string ⟨(s.drop i).toArray⟩) w := by
  have hsz : (⟨s.toArray⟩ : ByteArray).size = s.length := by simp [ByteArray.size]
  rw [run_slice_string_from_if (P := Tryd.prog) w 9 ⟨s.toArray⟩ .i64 i Tryd.underlying9, if_pos (by rw [hsz]; omega)]
  simp only [Int.toNat_natCast]
  rw [ByteArray.extract_mk, hsz, List.take_of_length_le (by simp)]
/-- How far the words are found: the pieces ps, the rest from 'frm' on, no space up to i. -/
structure WdTo (s : List UInt8) (frm i : Nat) (ps : List (List UInt8)) : Prop where
  le : frm ≤ i
  hi : i ≤ s.length
  eq : pieces 32 s = ps ++ pieces 32 (s.drop frm)
  no : ∀ (j : Nat), frm ≤ j → j < i → s[j]? ≠ some 32
theorem WdTo.mem {s : List UInt8} {frm i : Nat} {ps : List (List UInt8)} (h : WdTo s frm i ps) : (32 : UInt8) ∉ (s.drop frm).take (i - frm) := by
  intro hm
  obtain ⟨k, hk⟩ := List.getElem?_of_mem hm
  rw [List.getElem?_take] at hk
  split at hk
  · rename_i hlt
    rw [List.getElem?_drop] at hk
    exact h.no (frm + k) (by omega) (by omega) hk
  · cases hk
theorem WdTo.space {s : List UInt8} {frm i : Nat} {ps : List (List UInt8)} (h : WdTo s frm i ps) (hs : s[i]? = some 32) : WdTo s (i + 1) (i + 1) (ps ++ [(s.drop frm).take (i - frm)]) := by
  have hlt := (List.getElem?_eq_some_iff.1 hs).1
  refine ⟨Nat.le_refl _, hlt, ?_, fun j h1 h2 => by omega⟩
  have e : s.drop frm = (s.drop frm).take (i - frm) ++ 32 :: s.drop (i + 1) := by
    have h1 := (List.take_append_drop (i - frm) (s.drop frm)).symm
    rw [List.drop_drop, show frm + (i - frm) = i by have := h.le; omega] at h1
    rw [List.drop_eq_getElem_cons hlt] at h1
    have h2 : s[i] = 32 := by rw [List.getElem?_eq_getElem hlt] at hs; injection hs
    rw [h2] at h1
    exact h1
  rw [h.eq]
  conv => lhs; rw [e]
  rw [pieces_app _ h.mem]
  simp
theorem WdTo.other {s : List UInt8} {frm i : Nat} {ps : List (List UInt8)} {c : UInt8} (h : WdTo s frm i ps) (hs : s[i]? = some c) (hc : c ≠ 32) : WdTo s frm (i + 1) ps := by
  have hlt := (List.getElem?_eq_some_iff.1 hs).1
  refine ⟨by have := h.le; omega, hlt, h.eq, fun j h1 h2 => ?_⟩
  rcases Nat.lt_or_ge j i with h3 | h3
  · exact h.no j h1 h3
  · obtain rfl : j = i := by omega
    rw [hs]; intro e; injection e with e; exact hc e
theorem WdTo.done {s : List UInt8} {frm : Nat} {ps : List (List UInt8)} (h : WdTo s frm s.length ps) : pieces 32 s = ps ++ [s.drop frm] := by
  have hm := h.mem
  rw [List.take_of_length_le (by simp)] at hm
  rw [h.eq, pieces_none hm]
/-- What words answers. -/
def WordsRet (w : World) (s : List UInt8) (e : Ending) (w' : World) : Prop := ∃ A c, e = .returned (.slice A (pieces 32 s).length c) ∧ Txts w' (.slice A (pieces 32 s).length c) (pieces 32 s) ∧ (∀ b off, A = some ⟨b, off, none⟩ → w.heap.size ≤ b) ∧ Below w.heap.size w w'
set_option maxRecDepth 100000 in
set_option maxHeartbeats 4000000 in
theorem rwords_any (s : List UInt8) (w : World) (hl : s.length ≤ 1000000000) :
    Calls Tryd.prog 19 #[.string ⟨s.toArray⟩] w (WordsRet w s) := by
  obtain ⟨iI, hiI, hzI0, hzI1, hzI2⟩ := info_parts info_str
  go_enter Tryd.func19, Tryd.ntmps19
  go_wp2_with fail
  go_loopw [3, 4, 5] (fun lv fv iv wr => ∃ (frm i : Nat) (ps : List (List UInt8)), fv = .int .i64 frm ∧ iv = .int .i64 i ∧ Hid (wr.ownsRow w.heap.size 9 1 lv ps.length (strV ps)) ∧ Hid (WdTo s frm i ps) ∧ Hid (Below w.heap.size w wr) ∧ i ≤ s.length ∧ frm ≤ i ∧ Hid (ps.length ≤ i)) (fun _ _ iv _ => s.length - (intOf iv).toNat)
  case atStart => exact ⟨0, 0, [], rfl, rfl, Lib.hid (World.ownsRow_nil _ _ _ _), Lib.hid ⟨Nat.le_refl _, by omega, rfl, fun j h1 h2 => by omega⟩, Lib.hid (Below.refl _ _), by omega, by omega, Lib.hid (by simp)⟩
  case round =>
    obtain ⟨frm, i, ps, rfl, rfl, HO, HW, HB, hi, hfi, HPI⟩ := hrel
    obtain ⟨Ao, co, eo, -, -, -⟩ := owns_rd HO.out
    subst eo
    have HPN : Hid (ps.length ≤ 1000000000) := Lib.hid (by have := HPI.out; omega)
    by_cases hlt : i < s.length
    · obtain ⟨d, hd⟩ : ∃ d, s[i]? = some d := ⟨_, List.getElem?_eq_getElem hlt⟩
      have hix := byte_at hd
      have HD := Lib.hid hd
      clear hd
      by_cases hsp : d = 32
      · have q0 : ((d.toNat : Int) == 32) = true := by rw [hsp]; rfl
        have HW2 := Lib.hid (HW.out.space (by rw [HD.out, hsp]))
        have hsl := str_cut s frm i hfi hi
        have HON : Hid (∀ u ∈ ([.string ⟨((s.drop frm).take (i - frm)).toArray⟩] : List Value), u.oneCell' = true) := Lib.hid (by intro u hu; simp at hu; subst hu; rfl)
        clear hsp
        generalize (s.drop frm).take (i - frm) = pc at *
        go_wp2_with (at_builtin; refine wpList_append_own_at _ rfl _ _ 25 rfl w.heap.size 9 iI (.string ⟨#[]⟩) 1 16 Tryd.underlying25 hiI hzI0 hzI1 hzI2 rfl (by decide) _ _ _ rfl (HO.out.alloc _) ⟨wr.heap.size, 0, none⟩ 1 1 [.string ⟨pc.toArray⟩] rfl rfl (one_at wr _ _) HON.out ?a3 ?a4 ?a5 ?_)
        case a3 => have := HPN.out; unfold maxLen; omega
        case a4 => have := HPN.out; omega
        case a5 => have := HB.out.size; simp; omega
        intro v7 w7 hown hgrow _ hat
        have HO7 : Hid (w7.ownsRow w.heap.size 9 1 v7 (ps ++ [pc]).length (strV (ps ++ [pc]))) := Lib.hid (by
          have e : strV (ps ++ [pc]) = strV ps ++ [.string ⟨pc.toArray⟩] := by simp [strV]
          rw [e]; simpa using hown)
        have HB7 : Hid (Below w.heap.size w w7) := Lib.hid ((HB.out.alloc HB.out.size _).grown hgrow (by have := HB.out.size; simp; omega) fun k e => (HO.out.lt k e).1)
        obtain ⟨A7, c7, e7, -, -, -⟩ := owns_rd hown
        subst e7
        clear hown hgrow hat hsl
        go_wp2_with fail
        go_roundw
        case rel => exact ⟨i + 1, i + 1, ps ++ [pc], by go_num, by go_num, by simpa using HO7, HW2, HB7, by omega, by omega, Lib.hid (by have := HPI.out; simp; omega)⟩
        case measure => simp [intOf]; omega
      · have q0 : ((d.toNat : Int) == 32) = false := by
          rw [beq_eq_false_iff_ne]; intro e; exact hsp (UInt8.toNat_inj.1 (by show d.toNat = 32; omega))
        have HW2 := Lib.hid (HW.out.other HD.out hsp)
        clear hsp
        go_wp2_with fail
        go_roundw
        case rel => exact ⟨frm, i + 1, ps, rfl, by go_num, HO, HW2, HB, by omega, by omega, Lib.hid (by have := HPI.out; omega)⟩
        case measure => simp [intOf]; omega
    · obtain rfl : i = s.length := by omega
      have HPC := Lib.hid HW.out.done
      have hsl := str_from s frm hfi
      have HON : Hid (∀ u ∈ ([.string ⟨(s.drop frm).toArray⟩] : List Value), u.oneCell' = true) := Lib.hid (by intro u hu; simp at hu; subst hu; rfl)
      generalize s.drop frm = pc at *
      go_wp2_with (at_builtin; refine wpList_append_own_at _ rfl _ _ 25 rfl w.heap.size 9 iI (.string ⟨#[]⟩) 1 16 Tryd.underlying25 hiI hzI0 hzI1 hzI2 rfl (by decide) _ _ _ rfl (HO.out.alloc _) ⟨wr.heap.size, 0, none⟩ 1 1 [.string ⟨pc.toArray⟩] rfl rfl (one_at wr _ _) HON.out ?a3 ?a4 ?a5 ?_)
      case a3 => have := HPN.out; unfold maxLen; omega
      case a4 => have := HPN.out; omega
      case a5 => have := HB.out.size; simp; omega
      intro v7 w7 hown hgrow _ hat
      have HO7 : Hid (w7.ownsRow w.heap.size 9 1 v7 (ps ++ [pc]).length (strV (ps ++ [pc]))) := Lib.hid (by
        have e : strV (ps ++ [pc]) = strV ps ++ [.string ⟨pc.toArray⟩] := by simp [strV]
        rw [e]; simpa using hown)
      have HB7 : Hid (Below w.heap.size w w7) := Lib.hid ((HB.out.alloc HB.out.size _).grown hgrow (by have := HB.out.size; simp; omega) fun k e => (HO.out.lt k e).1)
      obtain ⟨A7, c7, e7, h8, h9, h10⟩ := owns_rd HO7.out
      subst e7
      have HGE : Hid (∀ b off, A7 = some ⟨b, off, none⟩ → w.heap.size ≤ b) := Lib.hid (fun b off e2 => by
        have h := HO7.out
        rw [e2] at h
        exact (h.lt b rfl).1)
      have HT : Hid (Txts w7 (.slice A7 (pieces 32 s).length c7) (pieces 32 s)) := Lib.hid (by rw [HPC.out]; exact ⟨A7, c7, rfl, h8, h9, h10⟩)
      have HLE : Hid ((pieces 32 s).length = (ps ++ [pc]).length) := Lib.hid (by rw [HPC.out])
      clear hown hgrow hat h8 h9 h10
      generalize hm : (ps ++ [pc]).length = m at *
      clear hm
      go_wp2_with fail
      go_ret
      exact ⟨A7, c7, by rw [HLE.out]; rfl, HT.out, HGE.out, HB7.out⟩
end Go.Proofs.YtmnjmegejaejlaaDoor
