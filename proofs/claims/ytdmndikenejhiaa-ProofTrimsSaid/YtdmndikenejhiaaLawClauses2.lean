/-
  WALK: interleavelaw33.ProofClauses.
-/
import Derived.Test.YtdmndikenejhiaaLawAny
import Derived.Test.YtdmndikenejhiaaSteps
namespace Go.Proofs.Ytdmndikenejhiaa
open Go.RowKit

theorem SmallF.pos {a b c : Int} {f : Form} (h : SmallF a b c f) : 0 < f.bools ∧ 0 < f.atoms.length := by
  obtain ⟨h1, h2, h3, _⟩ := h
  constructor <;> omega

set_option maxRecDepth 100000 in
set_option maxHeartbeats 2000000 in
theorem lawClauses (pv tv : Value) (a b c : Int) (L : List Int) (xs : List (Int × Int × Int)) (w : World) (hp : IsProb w pv a b c L) (ht : Trips w tv xs) :
    Calls Try.prog 4 #[pv, tv] w fun e w' => e = .returned (.bool true) ∧ Below w.heap.size w w' := by
  have HP := Lib.hid hp
  have HT := Lib.hid ht
  obtain ⟨nv, rfl, -, -, -, hL⟩ := hp
  obtain ⟨An, cn, rfl, -, -, -, -⟩ := hL
  obtain ⟨A, cl, rfl, l1, l2, -, -⟩ := ht
  have HB : Hid (Below w.heap.size w (w.alloc (.cells #[.int .u8 a, .int .u8 b, .int .u8 c, .slice An L.length cn] 25))) := (Below.refl _ _).alloc (Nat.le_refl _) _
  have B0 := Blk.new w 25 #[.int .u8 a, .int .u8 b, .int .u8 c, .slice An L.length cn]
  go_enter Try.func4, Try.ntmps4
  go_wp2_with fail
  generalize w.alloc (.cells #[.int .u8 a, .int .u8 b, .int .u8 c, .slice An L.length cn] 25) = W at *
  clear B0
  refine (problem_any _ a b c L _ ?hp).mono ?_
  case hp => obtain ⟨nv, e1, e2⟩ := HP.out; exact ⟨_, rfl, e2.1, e2.2.1, e2.2.2.1, by injection e1 with e1; simp only [Array.mk.injEq, List.cons.injEq, and_true, true_and] at e1; rw [e1]; exact e2.2.2.2.keep HB.out⟩
  rintro e w2 ⟨fv, f, rfl, hf, hsm, hb2⟩
  have HB2 := Lib.hid (HB.out.trans (hb2.mono HB.out.size))
  have HF2 := Lib.hid hf
  have HSM := Lib.hid hsm
  obtain ⟨av, cv, rfl, -, -, hf3, hf4⟩ := hf
  obtain ⟨Aa, ca, rfl, -, -, -, -⟩ := hf3
  obtain ⟨Ac, cc, vs, rfl, -, -, -, -, -⟩ := hf4
  clear hb2 hsm
  have B1 := Blk.new w2 32 #[.int .i64 f.ints, .int .i64 f.bools, .slice Aa f.atoms.length ca, .slice Ac f.clauses.length cc]
  have hb3 : Below w2.heap.size w2 (w2.alloc (.cells #[.int .i64 f.ints, .int .i64 f.bools, .slice Aa f.atoms.length ca, .slice Ac f.clauses.length cc] 32)) := (Below.refl _ _).alloc (Nat.le_refl _) _
  go_wp2_with fail
  generalize w2.alloc (.cells #[.int .i64 f.ints, .int .i64 f.bools, .slice Aa f.atoms.length ca, .slice Ac f.clauses.length cc] 32) = w3 at *
  have hlt := B1.lt
  have q0 := B1.cell 0
  have q1 := B1.cell 1
  have q2 := B1.cell 2
  have q3 := B1.cell 3
  simp only [List.getElem?_toArray, List.getElem?_cons_zero, List.getElem?_cons_succ] at q0 q1 q2 q3
  have HF3 := Lib.hid (HF2.out.keep hb3)
  have HB3 := Lib.hid (HB2.out.trans (hb3.mono HB2.out.size))
  have HSOF : Hid (∀ w', Below w3.heap.size w3 w' → w'.cell? ⟨w2.heap.size, 0, none⟩ = some (.int .i64 f.ints) ∧ w'.cell? ⟨w2.heap.size, 1, none⟩ = some (.int .i64 f.bools) ∧ w'.cell? ⟨w2.heap.size, 2, none⟩ = some (.slice Aa f.atoms.length ca) ∧ w'.cell? ⟨w2.heap.size, 3, none⟩ = some (.slice Ac f.clauses.length cc) ∧ Below w3.heap.size w3 w') :=
    fun w' h => ⟨(h.cell (p := ⟨w2.heap.size, 0, none⟩) hlt).trans q0, (h.cell (p := ⟨w2.heap.size, 1, none⟩) hlt).trans q1, (h.cell (p := ⟨w2.heap.size, 2, none⟩) hlt).trans q2, (h.cell (p := ⟨w2.heap.size, 3, none⟩) hlt).trans q3, h⟩
  clear B1 hb3 q0 q1 q2 q3
  go_region_held3 (fun w' => w'.cell? ⟨w2.heap.size, 0, none⟩ = some (.int .i64 f.ints) ∧ w'.cell? ⟨w2.heap.size, 1, none⟩ = some (.int .i64 f.bools) ∧ w'.cell? ⟨w2.heap.size, 2, none⟩ = some (.slice Aa f.atoms.length ca) ∧ w'.cell? ⟨w2.heap.size, 3, none⟩ = some (.slice Ac f.clauses.length cc) ∧ Below w3.heap.size w3 w') (first | assumption | exact HSOF.out _ (Below.refl _ _).drew) (first
    | (go_at_call 18; refine (steps_any _ _ f xs _ (HF3.out.keep (Below.refl _ _).drew) (HT.out.keep HB3.out.drew) HSM.out.valid (fun x hx => by have := (HSM.out.2.2.2.2.2 x hx).2.1; omega) HSM.out.pos.1 HSM.out.pos.2).mono ?_; rintro e w4 ⟨lv, l, rfl, hl, hl1, hl2, hb4⟩; have hs4 := HSOF.out w4 (Below.trans (Below.refl _ _).drew hb4); have HL := Lib.hid hl; have HAS : Hid (Asked f l) := HSM.out.asked (by omega) (fun s hs => by have := hl2 s hs; omega); clear hl hl1 hl2)
    | (go_at_call 17; refine (lclauses_any _ _ f l _ (HF3.out.keep hs4.2.2.2.2) HL.out HAS.out).mono ?_; rintro e w5 ⟨rfl, hb5⟩; have hs5 := HSOF.out w5 (hs4.2.2.2.2.trans (hb5.mono hs4.2.2.2.2.size)))
    | (go_at_call 13; refine (awake33 _).mono ?_; rintro e w6 ⟨rfl, hb6⟩; have hs6 := HSOF.out w6 (hs5.2.2.2.2.trans (hb6.mono hs5.2.2.2.2.size))))
  have HB6 := Lib.hid (HB3.out.trans (hs6.2.2.2.2.mono HB3.out.size))
  clear hs4 hs5 hs6 hb4 hb5 hb6
  go_wp2_with fail
  go_ret
  exact ⟨rfl, HB6.out⟩
end Go.Proofs.Ytdmndikenejhiaa
