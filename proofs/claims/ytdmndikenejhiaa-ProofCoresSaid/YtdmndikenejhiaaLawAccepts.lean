/-
  WALK: interleavelaw33.ProofAccepts.
-/
import Derived.Test.YtdmndikenejhiaaRefuteAll
import Derived.Test.YtdmndikenejhiaaLawAny
namespace Go.Proofs.Ytdmndikenejhiaa
open Go.RowKit

theorem Refutes.chk {f : Form} {l : List Stp} (h : Refutes f l) : chk (runS f [] l) l.length = (0, 0) := by
  obtain ⟨cs, hg, h0, hl⟩ := h
  unfold Good at hg
  rw [hg]
  unfold Go.Proofs.Ytdmndikenejhiaa.chk
  rw [if_pos rfl, if_neg (by rw [hl]; simp; intro e; rw [e] at h0; simp at h0)]
theorem chk_refutes {f : Form} {l : List Stp} (h : (chk (runS f [] l) l.length).2 = 0) : Refutes f l := by
  cases e : runS f [] l with
  | mk cs b =>
    rw [e] at h
    unfold chk at h
    cases b with
    | false => simp at h
    | true =>
      rw [if_pos rfl] at h
      split at h
      · simp at h
      · rename_i hn
        refine ⟨cs, e, ?_, ?_⟩
        · refine Nat.pos_of_ne_zero fun e => hn (.inl e)
        · exact Classical.byContradiction fun e => hn (.inr e)

set_option maxRecDepth 100000 in
set_option maxHeartbeats 2000000 in
theorem lawAccepts (pv : Value) (a b c : Int) (L : List Int) (w : World) (hp : IsProb w pv a b c L) :
    Calls Try.prog 6 #[pv] w fun e w' => e = .returned (.bool true) ∧ Below w.heap.size w w' := by
  have HP := Lib.hid hp
  obtain ⟨nv, rfl, -, -, -, hL⟩ := hp
  obtain ⟨An, cn, rfl, -, -, -, -⟩ := hL
  have HB : Hid (Below w.heap.size w (w.alloc (.cells #[.int .u8 a, .int .u8 b, .int .u8 c, .slice An L.length cn] 25))) := (Below.refl _ _).alloc (Nat.le_refl _) _
  go_enter Try.func6, Try.ntmps6
  go_wp2_with fail
  generalize w.alloc (.cells #[.int .u8 a, .int .u8 b, .int .u8 c, .slice An L.length cn] 25) = W at *
  refine (small_any _ a b c L _ ?hp).mono ?_
  case hp => obtain ⟨nv, e1, e2⟩ := HP.out; exact ⟨_, rfl, e2.1, e2.2.1, e2.2.2.1, by injection e1 with e1; simp only [Array.mk.injEq, List.cons.injEq, and_true, true_and] at e1; rw [e1]; exact e2.2.2.2.keep HB.out⟩
  rintro e w2 ⟨fv, f, rfl, hf, hsm, hb2⟩
  have HB2 := Lib.hid (HB.out.trans (hb2.mono HB.out.size))
  have HF2 := Lib.hid hf
  have HSM := Lib.hid hsm
  obtain ⟨av, cv, rfl, -, -, hf3, hf4⟩ := hf
  obtain ⟨Aa, ca, rfl, -, -, -, -⟩ := hf3
  obtain ⟨Ac, cc, vs, rfl, -, -, -, -, -⟩ := hf4
  clear hb2 hsm
  have B1 := Blk.new w2 32 #[.int .i64 f.ints, .int .i64 f.bools, .slice Aa f.atoms.length ca, .slice Ac f.clauses.length cc]
  have hb3 : Below w2.heap.size w2 (w2.alloc (.cells #[.int .i64 f.ints, .int .i64 f.bools, .slice Aa f.atoms.length ca, .slice Ac f.clauses.length cc] 32)) := (Below.refl _ _).alloc (Nat.le_refl _) _
  go_wp2_with fail
  generalize w2.alloc (.cells #[.int .i64 f.ints, .int .i64 f.bools, .slice Aa f.atoms.length ca, .slice Ac f.clauses.length cc] 32) = w3 at *
  have HBK := Lib.hid B1
  have HF3 := Lib.hid (HF2.out.keep hb3)
  have HB3 := Lib.hid (HB2.out.trans (hb3.mono HB2.out.size))
  clear B1 hb3
  refine (refuteAll_any _ f _ HF3.out HSM.out.q HSM.out.ten).mono ?_
  rintro e w4 ⟨hb4, ⟨lv, l, rfl, hl, hrf, hl1, hl2⟩ | ⟨bv, iv, bs, xs, rfl, hB, hX, -⟩⟩
  · have HF4 := Lib.hid (HF3.out.keep hb4)
    have HB4 := Lib.hid (HB3.out.trans (hb4.mono HB3.out.size))
    have HBK4 := Lib.hid (HBK.out.keep hb4)
    have HL := Lib.hid hl
    have HRF := Lib.hid hrf
    have HAS : Hid (Asked f l) := Lib.hid (HSM.out.asked (by omega) (fun s hs => by have := hl2 s hs; omega))
    have hb5 : Below w4.heap.size w4 (w4.alloc (.cells #[.slice none 0 0, .slice none 0 0] 45)) := (Below.refl _ _).alloc (Nat.le_refl _) _
    have HF5 := Lib.hid (HF4.out.keep hb5)
    have HL5 := Lib.hid (HL.out.keep hb5)
    have HB5 := Lib.hid (HB4.out.trans (hb5.mono HB4.out.size))
    have B5 := HBK4.out.keep hb5
    have q0 := B5.cell 0
    have q1 := B5.cell 1
    have q2 := B5.cell 2
    have q3 := B5.cell 3
    simp only [List.getElem?_toArray, List.getElem?_cons_zero, List.getElem?_cons_succ] at q0 q1 q2 q3
    clear hb4 hl hrf hl1 hl2 hb5 B5
    go_upto_region 3 with fail
    generalize w4.alloc (.cells #[.slice none 0 0, .slice none 0 0] 45) = w5 at *
    go_wp2_with fail
    refine (pcheck_any _ _ f l _ HF5.out HL5.out HAS.out).mono ?_
    rintro e w6 ⟨rfl, hb6⟩
    rw [HRF.out.chk]
    have HB6 := Lib.hid (HB5.out.trans (hb6.mono HB5.out.size))
    clear hb6 q0 q1 q2 q3
    go_wp2_with fail
    refine (awake33 _).mono ?_
    rintro e w7 ⟨rfl, hb7⟩
    have HB7 := Lib.hid (HB6.out.trans (hb7.mono HB6.out.size))
    clear hb7
    go_wp2_with fail
    go_ret
    exact ⟨rfl, HB7.out⟩
  · have HB4 := Lib.hid (HB3.out.trans (hb4.mono HB3.out.size))
    have HB5 : Hid (Below w.heap.size w (w4.alloc (.cells #[bv, iv] 45))) := Lib.hid (HB4.out.alloc HB4.out.size _)
    obtain ⟨Ab, cb, rfl, -, -, -⟩ := hB
    obtain ⟨Ai, ci, rfl, -, -, -, -⟩ := hX
    clear hb4
    go_wp2_with fail
    refine (awake33 _).mono ?_
    rintro e w7 ⟨rfl, hb7⟩
    have HB7 := Lib.hid (HB5.out.trans (hb7.mono HB5.out.size))
    clear hb7
    go_wp2_with fail
    go_ret
    exact ⟨rfl, HB7.out⟩
end Go.Proofs.Ytdmndikenejhiaa
