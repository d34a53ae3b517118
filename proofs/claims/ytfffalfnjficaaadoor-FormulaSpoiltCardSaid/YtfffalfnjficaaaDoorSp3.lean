/-
  WALK: interleavescene.Spoil.
  PLAIN LAW: two readings of one text answer alike.
  WALK: interleavelaw31.FormulaSpoilt.
-/
import Derived.Test.YtfffalfnjficaaaDoorBuild
import Derived.Laws.IdiomStrings
import Derived.Laws.BytesString
import Derived.Laws.Concat
import Derived.Laws.Strings2
import Derived.Laws.Strings3
import Derived.Deep.RegionHeld3
import Derived.Deep.Cut
import Derived.Deep.RegionLaw
import Derived.Test.YtfffalfnjficaaaDoorParseRet
import Derived.Test.YtfffalfnjficaaaDoorRParse
import Derived.Test.YtfffalfnjficaaaDoorRefParse
import Derived.Test.YtfffalfnjficaaaDoorSameF
import Derived.Test.YtfffalfnjficaaaDoorAwake31
import Derived.Test.YtfffalfnjficaaaDoorSp2
import Derived.Test.YtfffalfnjficaaaDoorProblem
namespace Go.Proofs.YtfffalfnjficaaaDoor
open Go.RowKit

/-- What Spoil returns: a text that is not much longer. -/
def SpoilRet (w : World) (n : Nat) (e : Ending) (w' : World) : Prop := ∃ t : ByteArray, e = .returned (.string t) ∧ t.size ≤ 2 * n + 1 ∧ Below w.heap.size w w'
theorem one_byte (w : World) (c : Int) (hc : 0 ≤ c ∧ c ≤ 255) (g : Nat) (h : w.cell? ⟨g, 0, none⟩ = some (.int .u8 c)) :
    (convert 33 9 (.slice (some ⟨g, 0, none⟩) 1 1)).run Tryd.prog w = .ok (.string ⟨#[UInt8.ofNat c.toNat]⟩) w := by
  have hn : ((UInt8.ofNat c.toNat).toNat : Int) = c := by
    rw [UInt8.toNat_ofNat']; omega
  exact run_convert_bytes_back (P := Tryd.prog) w 33 9 5 ⟨g, 0, none⟩ 1 [UInt8.ofNat c.toNat] Tryd.underlying33 Tryd.underlying5 Tryd.underlying9 (by
    intro j hj
    obtain rfl : j = 0 := by simp at hj; omega
    rw [List.getElem_cons_zero, hn]
    exact h)
set_option maxRecDepth 100000 in
set_option maxHeartbeats 4000000 in
theorem spoil_any (s : ByteArray) (a h c : Int) (w : World) (ha : 0 ≤ a ∧ a ≤ 65535) (hh : 0 ≤ h ∧ h ≤ 65535) (hc : 0 ≤ c ∧ c ≤ 255) (hl : s.size ≤ 1000000) :
    Calls Tryd.prog 11 #[.string s, .int .u16 a, .int .u16 h, .int .u8 c] w (SpoilRet w s.size) := by
  have hcv := one_byte (w.alloc (.cells #[.int .u8 c] 5)) c hc w.heap.size (by simp [World.cell?_alloc_mark])
  have hcv2 := one_byte (w.drew.alloc (.cells #[.int .u8 c] 5)) c hc w.heap.size (World.cell?_alloc_mark w.drew #[.int .u8 c] 5 (0, 0) 0)
  have hcv3 := one_byte (w.alloc (.cells #[.int .u8 c] 5)).drew c hc w.heap.size (World.cell?_alloc_mark w #[.int .u8 c] 5 (0, 0) 0)
  go_enter Tryd.func11, Tryd.ntmps11
  by_cases hs : s.size = 0
  · have q0 : (s.toList == []) = true := by
      rw [beq_iff_eq, ByteArray.toList_eq]; exact List.eq_nil_of_length_eq_zero (by simpa using hs)
    go_wp2_with fail
    go_ret
    exact ⟨_, rfl, by show 1 ≤ _; omega, (Below.refl _ _).alloc (Nat.le_refl _) _⟩
  · have q0 : (s.toList == []) = false := by
      rw [beq_eq_false_iff_ne, ByteArray.toList_eq]; intro e; exact hs (by have := congrArg List.length e; simpa using this)
    obtain ⟨i, hi, hil⟩ : ∃ i : Nat, a % (s.size : Int) = i ∧ i < s.size := ⟨(a % (s.size : Int)).toNat, by have := Int.emod_nonneg a (show (s.size : Int) ≠ 0 by omega); omega, by have := Int.emod_lt_of_pos a (show 0 < (s.size : Int) by omega); have := Int.emod_nonneg a (show (s.size : Int) ≠ 0 by omega); omega⟩
    have b1 : 0 ≤ (i : Int) ∧ (i : Int) ≤ s.size := by omega
    have b2 : 0 ≤ (i : Int) + 1 ∧ (i : Int) + 1 ≤ s.size := by omega
    rcases (show h % 6 = 0 ∨ h % 6 = 1 ∨ h % 6 = 2 ∨ h % 6 = 3 ∨ h % 6 = 4 ∨ h % 6 = 5 by omega) with h6 | h6 | h6 | h6 | h6 | h6
    · go_upto_region 6 with fail
      go_region
      go_wp2_with fail
      go_ret
      exact ⟨_, rfl, by simp [ByteArray.size_append, ByteArray.size_extract]; show _ + 1 + _ ≤ _; omega, bdrew ((Below.refl _ _).alloc (Nat.le_refl _) _) 1⟩
    · go_upto_region 8 with fail
      go_region
      go_wp2_with fail
      go_ret
      exact ⟨_, rfl, by simp [ByteArray.size_append, ByteArray.size_extract]; show _ + 1 + _ ≤ _; omega, bdrew ((Below.refl _ _).alloc (Nat.le_refl _) _) 1⟩
    · go_upto_region 10 with fail
      go_region
      go_wp2_with fail
      go_ret
      exact ⟨_, rfl, by simp [ByteArray.size_append, ByteArray.size_extract]; omega, bdrew (Below.refl _ _) 1⟩
    · go_wp2_with fail
      go_ret
      exact ⟨_, rfl, by simp [ByteArray.size_extract]; omega, Below.refl _ _⟩
    · go_wp2_with fail
      go_ret
      exact ⟨_, rfl, by simp [ByteArray.size_append, ByteArray.size_extract]; omega, Below.refl _ _⟩
    · go_wp2_with fail
      go_ret
      exact ⟨_, rfl, by omega, Below.refl _ _⟩
/-- The same, by lists. -/
theorem spoil_list (s : List UInt8) (a h c : Int) (w : World) (ha : 0 ≤ a ∧ a ≤ 65535) (hh : 0 ≤ h ∧ h ≤ 65535) (hc : 0 ≤ c ∧ c ≤ 255) (hl : s.length ≤ 1000000) :
    Calls Tryd.prog 11 #[.string ⟨s.toArray⟩, .int .u16 a, .int .u16 h, .int .u8 c] w fun e w' => ∃ t : List UInt8, e = .returned (.string ⟨t.toArray⟩) ∧ t.length ≤ 2 * s.length + 1 ∧ Below w.heap.size w w' := by
  refine (spoil_any ⟨s.toArray⟩ a h c w ha hh hc hl).mono ?_
  rintro e w' ⟨⟨⟨l⟩⟩, rfl, h1, h2⟩
  exact ⟨l, rfl, h1, h2⟩
end Go.Proofs.YtfffalfnjficaaaDoor

namespace Go.Proofs.YtfffalfnjficaaaDoor
open Go.RowKit

/-- The empty formula. -/
def form0 : Form := ⟨0, 0, [], []⟩
theorem form0_at (w : World) : IsForm w zeroV form0 := by
  refine ⟨_, _, rfl, ?_, ?_, ?_, ?_⟩
  · show I64 0; unfold I64; omega
  · show I64 0; unfold I64; omega
  · exact ⟨none, 0, rfl, by simp [form0], by unfold maxLen; omega, by simp [form0], Rd.nil _ _⟩
  · exact ⟨none, 0, [], rfl, by simp [form0], by unfold maxLen; omega, rfl, Rd.nil _ _, by intro k u xs h; simp at h⟩
/-- What a text is read as: a formula, an error, a line. -/
def ParseIs (s : List UInt8) (f : Form) (er ln : Int) : Prop :=
  (ParseR s (.ok f) ∧ validF f = 0 ∧ er = 0 ∧ ln = 0) ∨ (∃ g, ParseR s (.ok g) ∧ validF g ≠ 0 ∧ f = form0 ∧ er = validF g ∧ ln = 0) ∨ (∃ k : Nat, ParseR s (.bad k) ∧ f = form0 ∧ er = 3 ∧ ln = k)
theorem ParseRet.shape {w w1 : World} {s : List UInt8} {e : Ending} (h : ParseRet w s e w1) : ∃ f a er ln, e = .returned (.tuple #[a, .int .i64 er, .int .i64 ln]) ∧ IsForm w1 a f ∧ ParseIs s f er ln := by
  obtain ⟨-, h⟩ := h
  rcases h with ⟨f, v, p1, v1, rfl, i1⟩ | ⟨f, p1, v1, rfl⟩ | ⟨k, p1, rfl⟩
  · exact ⟨f, v, 0, 0, rfl, i1, .inl ⟨p1, v1, rfl, rfl⟩⟩
  · exact ⟨form0, zeroV, _, 0, rfl, form0_at _, .inr (.inl ⟨f, p1, v1, rfl, rfl, rfl⟩)⟩
  · exact ⟨form0, zeroV, 3, _, rfl, form0_at _, .inr (.inr ⟨k, p1, rfl, rfl, rfl⟩)⟩
theorem ParseIs.fn {s : List UInt8} {f f' : Form} {er ln er' ln' : Int} (h1 : ParseIs s f er ln) (h2 : ParseIs s f' er' ln') : f' = f ∧ er' = er ∧ ln' = ln := by
  rcases h1 with ⟨p1, v1, rfl, rfl⟩ | ⟨g, p1, v1, rfl, rfl, rfl⟩ | ⟨k, p1, rfl, rfl, rfl⟩ <;> rcases h2 with ⟨p2, v2, rfl, rfl⟩ | ⟨g', p2, v2, rfl, rfl, rfl⟩ | ⟨k', p2, rfl, rfl, rfl⟩
  · have e := p1.fn p2; injection e with e
    exact ⟨e.symm, rfl, rfl⟩
  · have e := p1.fn p2; injection e with e; subst e
    exact absurd v1 v2
  · have e := p1.fn p2; cases e
  · have e := p1.fn p2; injection e with e; subst e
    exact absurd v2 v1
  · have e := p1.fn p2; injection e with e; subst e
    exact ⟨rfl, rfl, rfl⟩
  · have e := p1.fn p2; cases e
  · have e := p1.fn p2; cases e
  · have e := p1.fn p2; cases e
  · have e := p1.fn p2; injection e with e; subst e
    exact ⟨rfl, rfl, rfl⟩
end Go.Proofs.YtfffalfnjficaaaDoor

namespace Go.Proofs.YtfffalfnjficaaaDoor
open Go.RowKit

set_option maxRecDepth 100000 in
set_option maxHeartbeats 4000000 in
theorem lawSpoilt (pv : Value) (a b c : Int) (L : List Int) (at_ how by_ : Int) (w : World) (hp : IsProb w pv a b c L) (h1 : 0 ≤ at_ ∧ at_ ≤ 65535) (h2 : 0 ≤ how ∧ how ≤ 65535) (h3 : 0 ≤ by_ ∧ by_ ≤ 255) (hpl : PL w) :
    Calls Tryd.prog 4 #[pv, .int .u16 at_, .int .u16 how, .int .u8 by_] w fun e w' => e = .returned (.bool true) ∧ Below w.heap.size w w' := by
  have HP := Lib.hid hp
  have HW := Lib.hid hpl
  have H1 := Lib.hid h1
  have H2 := Lib.hid h2
  have H3 := Lib.hid h3
  obtain ⟨nv, rfl, -, -, -, hL⟩ := hp
  obtain ⟨An, cn, rfl, -, -, -, -⟩ := hL
  have HB : Hid (Below w.heap.size w (w.alloc (.cells #[.int .u8 a, .int .u8 b, .int .u8 c, .slice An L.length cn] 35))) := (Below.refl _ _).alloc (Nat.le_refl _) _
  clear hpl h1 h2 h3
  go_enter Tryd.func4, Tryd.ntmps4
  go_wp2_with fail
  generalize w.alloc (.cells #[.int .u8 a, .int .u8 b, .int .u8 c, .slice An L.length cn] 35) = W at *
  refine (problem_any _ a b c L _ ?hp).mono ?_
  case hp => obtain ⟨nv, e1, e2⟩ := HP.out; exact ⟨_, rfl, e2.1, e2.2.1, e2.2.2.1, by injection e1 with e1; simp only [Array.mk.injEq, List.cons.injEq, and_true, true_and] at e1; rw [e1]; exact e2.2.2.2.keep HB.out⟩
  rintro e w0 ⟨fv, f0, rfl, hf, hsm, hb2⟩
  have HB0 := Lib.hid (HB.out.trans (hb2.mono HB.out.size))
  have HF0 := Lib.hid hf
  have HSM := Lib.hid hsm
  obtain ⟨av, cv, rfl, -, -, hf3, hf4⟩ := hf
  obtain ⟨Aa, ca, rfl, -, -, -, -⟩ := hf3
  obtain ⟨Ac, cc, vs, rfl, -, -, -, -, -⟩ := hf4
  clear hb2 hsm
  go_wp2_with fail
  refine (rformat_any _ f0 _ HF0.out (HW.out.below HB0.out).tab ?sz).mono ?_
  case sz => obtain ⟨s1, s2, s3, s4, s5, s6⟩ := HSM.out; have := sum_small f0.clauses (fun c hc => (s6 c hc).2.1); omega
  rintro e w1 ⟨rfl, hb4⟩
  have HLN : Hid ((formText f0).length ≤ 400000) := Lib.hid (by obtain ⟨s1, s2, s3, s4, s5, s6⟩ := HSM.out; exact form_lenS HF0.out (by omega) (by omega) (fun c hc => (s6 c hc).2.1))
  have HBA := Lib.hid (HB0.out.trans (hb4.mono HB0.out.size))
  clear hb4
  go_wp2_with fail
  refine (spoil_list (formText f0) at_ how by_ w1 H1.out H2.out H3.out (by have := HLN.out; omega)).mono ?_
  rintro e w2a ⟨s, rfl, hsl, hb5⟩
  have HBB := Lib.hid (HBA.out.trans (hb5.mono HBA.out.size))
  have hs2 : s.length ≤ 900000 := by have := HLN.out; omega
  have HPL := Lib.hid (HW.out.below HBB.out)
  clear hb5 hsl
  go_wp2_with fail
  refine (parse_any s w2a (by omega) HPL.out).mono ?_
  rintro e w2 h1
  have HB2 := Lib.hid h1.1
  obtain ⟨f, a, er, ln, rfl, hf, his⟩ := h1.shape
  have HF2 := Lib.hid hf
  have HIS := Lib.hid his
  clear h1 his
  obtain ⟨av, cv, rfl, -, -, hf3, hf4⟩ := hf
  obtain ⟨Aa, ca, rfl, -, -, -, -⟩ := hf3
  obtain ⟨Ac, cc, vs, rfl, -, -, -, -, -⟩ := hf4
  have B1 := Blk.new w2 26 #[.int .i64 f.ints, .int .i64 f.bools, .slice Aa f.atoms.length ca, .slice Ac f.clauses.length cc]
  have hb3 : Below w2.heap.size w2 (w2.alloc (.cells #[.int .i64 f.ints, .int .i64 f.bools, .slice Aa f.atoms.length ca, .slice Ac f.clauses.length cc] 26)) := (Below.refl _ _).alloc (Nat.le_refl _) _
  go_wp2_with fail
  generalize w2.alloc (.cells #[.int .i64 f.ints, .int .i64 f.bools, .slice Aa f.atoms.length ca, .slice Ac f.clauses.length cc] 26) = w3 at *
  have HF3 := Lib.hid (HF2.out.keep hb3)
  have HB3 := Lib.hid (HB2.out.trans (hb3.mono HB2.out.size))
  have HB1 := Lib.hid B1
  clear B1 hb3
  refine (rparse_ref s w3 (by omega) (HPL.out.below HB3.out)).mono ?_
  rintro e w4 h1
  have HB4 := Lib.hid (HB3.out.trans (h1.1.mono HB3.out.size))
  have HF4 := Lib.hid (HF3.out.keep h1.1)
  have HK4 := Lib.hid (HB1.out.keep h1.1)
  obtain ⟨f', a', er', ln', rfl, hf, his⟩ := h1.shape
  obtain ⟨rfl, rfl, rfl⟩ := HIS.out.fn his
  have HG4 := Lib.hid hf
  clear h1 his
  obtain ⟨av2, cv2, rfl, -, -, hd2, hm2⟩ := hf
  obtain ⟨A2, c2, rfl, -, -, -, -⟩ := hd2
  obtain ⟨C2, cc2, vs2, rfl, -, -, -, -, -⟩ := hm2
  have hk6 := HK4.out.alloc (.cells #[.int .i64 f'.ints, .int .i64 f'.bools, .slice A2 f'.atoms.length c2, .slice C2 f'.clauses.length cc2] 26)
  have hb6 : Below w4.heap.size w4 (w4.alloc (.cells #[.int .i64 f'.ints, .int .i64 f'.bools, .slice A2 f'.atoms.length c2, .slice C2 f'.clauses.length cc2] 26)) := (Below.refl _ _).alloc (Nat.le_refl _) _
  have q0 := hk6.cell 0
  have q1 := hk6.cell 1
  have q2 := hk6.cell 2
  have q3 := hk6.cell 3
  simp only [List.getElem?_toArray, List.getElem?_cons_zero, List.getElem?_cons_succ] at q0 q1 q2 q3
  have HB6 := Lib.hid hb6
  have HBW6 := Lib.hid (HB4.out.trans (hb6.mono HB4.out.size))
  clear hk6 hb6
  go_wp2_with fail
  clear q0 q1 q2 q3
  generalize w4.alloc (.cells #[.int .i64 f'.ints, .int .i64 f'.bools, .slice A2 f'.atoms.length c2, .slice C2 f'.clauses.length cc2] 26) = w6 at *
  refine (samef_any _ _ f' w6 (HF4.out.keep HB6.out) (HG4.out.keep HB6.out)).mono ?_
  rintro e w7 ⟨rfl, hb7⟩
  have HB7 := Lib.hid (HBW6.out.trans (hb7.mono HBW6.out.size))
  clear hb7
  go_wp2_with fail
  refine (awake31 w7 (HPL.out.below HB7.out).tab).mono ?_
  rintro e w9 ⟨rfl, hb9⟩
  have HB9 := Lib.hid (HB7.out.trans (hb9.mono HB7.out.size))
  clear hb9
  go_wp2_with fail
  go_ret
  exact ⟨rfl, HBB.out.trans (HB9.out.mono HBB.out.size)⟩
end Go.Proofs.YtfffalfnjficaaaDoor
