/-
  WALK: interleavescene.Steps: it makes at most 40 steps of few literals.
-/
import Derived.Test.YtfffalfnjficaaaGreatDoorPs47
import Derived.Test.YtfffalfnjficaaaGreatDoorPs39
import Derived.Test.YtfffalfnjficaaaGreatDoorPs33
namespace Go.Proofs.YtfffalfnjficaaaGreatDoor
open Go.RowKit

/-- The value v is a slice of triples of bytes. -/
def Trip.cells (t : Int × Int × Int) : List Value := [.int .u8 t.1, .int .u8 t.2.1, .int .u8 t.2.2]
def Trips (w : World) (v : Value) (xs : List (Int × Int × Int)) : Prop :=
  ∃ A c, v = .slice A xs.length c ∧ xs.length ≤ c ∧ c ≤ maxLen ∧ (∀ t ∈ xs, (0 ≤ t.1 ∧ t.1 ≤ 255) ∧ (0 ≤ t.2.1 ∧ t.2.1 ≤ 255) ∧ (0 ≤ t.2.2 ∧ t.2.2 ≤ 255)) ∧ Rd w A (xs.flatMap Trip.cells)
theorem Trips.keep {w w' : World} {v : Value} {xs : List (Int × Int × Int)} (h : Trips w v xs) (hb : Below w.heap.size w w') : Trips w' v xs := by
  obtain ⟨A, c, h1, h2, h3, h4, h5⟩ := h
  exact ⟨A, c, h1, h2, h3, h4, h5.keep hb⟩
theorem Trips.at_ {w : World} {A : Option Addr} {xs : List (Int × Int × Int)} (h : Rd w A (xs.flatMap Trip.cells)) {k : Nat} {t : Int × Int × Int} (hk : xs[k]? = some t) :
    ∃ b off, A = some ⟨b, off, none⟩ ∧ b < w.heap.size ∧ w.cell? ⟨b, off + k * 3, none⟩ = some (.int .u8 t.1) ∧ w.cell? ⟨b, off + k * 3 + 1, none⟩ = some (.int .u8 t.2.1) ∧ w.cell? ⟨b, off + k * 3 + 2, none⟩ = some (.int .u8 t.2.2) := by
  have hg : ∀ r, r < 3 → (xs.flatMap Trip.cells)[k * 3 + r]? = (Trip.cells t)[r]? := fun r hr => flat_get (g := Trip.cells) (m := 3) (fun _ => rfl) hk hr
  obtain ⟨b, off, hA, hlt, hc⟩ := h (by have := (List.getElem?_eq_some_iff.1 ((hg 0 (by omega)).trans (show (Trip.cells t)[0]? = some _ from rfl))).1; omega)
  have hx : ∀ r u, r < 3 → (Trip.cells t)[r]? = some u → w.cell? ⟨b, off + k * 3 + r, none⟩ = some u := fun r u hr hu => by
    rw [Nat.add_assoc]; exact hc _ _ ((hg r hr).trans hu)
  exact ⟨b, off, hA, hlt, hx 0 _ (by omega) rfl, hx 1 _ (by omega) rfl, hx 2 _ (by omega) rfl⟩

/-- Steps under way. -/
structure SS (w wr : World) (fv : Array Value) (v : Value) (ps : List (Stp × Value)) : Prop where
  b0 : Blk wr w.heap.size 35 fv
  os : OwnStps wr (w.heap.size + 1) (fun b => w.heap.size + 1 ≤ b) v ps
  hi : w.heap.size + 1 ≤ wr.heap.size
  bl : Below w.heap.size w wr
section
variable {w wr w' : World} {fv : Array Value} {v : Value} {ps : List (Stp × Value)}
theorem SS.keep (h : SS w wr fv v ps) (hb : Below wr.heap.size wr w') : SS w w' fv v ps := ⟨h.b0.keep hb, h.os.keep hb, Nat.le_trans h.hi hb.size, h.bl.trans (hb.mono h.bl.size)⟩
theorem SS.push {v' : Value} {o : Obj} {s : Stp} {lv : Value} (h : SS w wr fv v ps) (hu : IntsO wr (fun b => w.heap.size + 1 ≤ b ∧ some b ≠ v.ownBlock) lv s.lits) (hs : s.ok)
    (ho : w'.ownsRow (w.heap.size + 1) 53 6 v' (ps.length + 1) (ps.flatMap Stp.cells ++ Stp.cells (s, lv))) (hg : (wr.alloc o).grownBy w' v.ownBlock) (hat : v'.ownBlock = v.ownBlock ∨ v'.ownBlock = some (wr.alloc o).heap.size) : SS w w' fv v' (ps ++ [(s, lv)]) := by
  have hlt : ∀ g, v.ownBlock = some g → w.heap.size + 1 ≤ g := fun g e => (h.os.1.lt g e).1
  refine ⟨(h.b0.alloc o).grown hg fun e => by have := hlt _ e.symm; omega, h.os.push hu hs ho hg hat, ?_, ?_⟩
  · have h1 := hg.size; have h2 := h.hi; simp at h1; omega
  · exact (h.bl.alloc h.bl.size o).grown hg (by have := h.bl.size; simp; omega) fun g e => by have := hlt g e; omega
end
theorem SS.row {w wr w' : World} {fv : Array Value} {v : Value} {ps : List (Stp × Value)} {B : Nat} {row : Option Nat} (h : SS w wr fv v ps) (ho : OwnStps wr (w.heap.size + 1) (fun b => w.heap.size + 1 ≤ b ∧ b < B) v ps) (hg : wr.grownBy w' row) (hrow : ∀ g, row = some g → B ≤ g) (hv : ∀ g, v.ownBlock = some g → g < B) (hB : w.heap.size + 1 ≤ B) :
    SS w w' fv v ps ∧ OwnStps w' (w.heap.size + 1) (fun b => w.heap.size + 1 ≤ b ∧ b < B) v ps := by
  have hne : v.ownBlock = none ∨ v.ownBlock ≠ row := by
    cases e : v.ownBlock with
    | none => exact .inl rfl
    | some g => right; intro e'; have := hv g e; have := hrow g e'.symm; omega
  have h2 := ho.grown hg hne fun b hb e => by have := hrow b e.symm; omega
  exact ⟨⟨h.b0.grown hg fun e => by have := hrow _ e.symm; omega, h2.mono fun b _ hb => hb.1, Nat.le_trans h.hi hg.size, h.bl.grown hg h.bl.size fun g e => by have := hrow g e; omega⟩, h2⟩
theorem intsO_nil (w : World) (P : Nat → Prop) : IntsO w P (.slice none 0 0) [] := ⟨none, 0, rfl, by simp, by simp [maxLen], by simp, by simp⟩

theorem pairO {w : World} {g : Nat} {t : TypeId} {a b : Int} {P : Nat → Prop} (h : Blk w g t #[.int .i64 a, .int .i64 b]) (ha : I64 a) (hb : I64 b) (hP : P g) : IntsO w P (.slice (some ⟨g, 0, none⟩) 2 2) [a, b] :=
  ⟨_, 2, rfl, by simp, by simp [maxLen], by intro x hx; simp at hx; rcases hx with rfl | rfl <;> assumption, fun _ => ⟨g, 0, rfl, h.lt, hP, fun j u hu => by rw [Nat.zero_add, h.cell j, List.getElem?_toArray]; exact hu⟩⟩

def SmL (ps : List (Stp × Value)) : Prop := ∀ q ∈ ps, q.1.lits.length ≤ 3
theorem sm_push {ps : List (Stp × Value)} {q : Stp × Value} (h : SmL ps) (hq : q.1.lits.length ≤ 3) : SmL (ps ++ [q]) := fun x hx => by
  rcases List.mem_append.1 hx with hx | hx
  · exact h x hx
  · rw [List.mem_singleton] at hx; subst hx; exact hq
/-- What Steps returns. -/
def StepsRet (w : World) (e : Ending) (w' : World) : Prop := ∃ v l, e = .returned v ∧ Stps w' v l ∧ l.length ≤ 40 ∧ (∀ s ∈ l, s.lits.length ≤ 3) ∧ Below w.heap.size w w'
theorem info_step : (Tryz.prog.info? 53).map (fun i => (i.zero, i.size, i.bytes)) = some (some (.agg #[.int .i64 0, .int .i64 0, .slice none 0 0, .int .i64 0, .int .i64 0, .int .i64 0]), 6, 64) := by kernel_rfl
def zT : Value := .agg #[.int .i64 0, .int .i64 0, .slice none 0 0, .int .i64 0, .int .i64 0, .int .i64 0]

set_option maxRecDepth 100000 in
set_option maxHeartbeats 4000000 in
theorem steps_any (fv tv : Value) (f : Form) (xs : List (Int × Int × Int)) (w : World) (hf : IsForm w fv f) (ht : Trips w tv xs) (hv : validF f = 0) (hcl : ∀ c ∈ f.clauses, c.length ≤ 200000) (hbl : 0 < f.bools) (hal : 0 < f.atoms.length) :
    Calls Tryz.prog 7 #[fv, tv] w (StepsRet w) := by
  have HF := Lib.hid hf
  have HV := Lib.hid hv
  have HCL := Lib.hid hcl
  obtain ⟨v1, v2, v3, v4, v5, v6, -, -⟩ := validF_ok hv
  obtain ⟨av, cv, rfl, -, -, hf3, hf4⟩ := hf
  obtain ⟨Aa, ca, rfl, -, -, -, -⟩ := hf3
  obtain ⟨Ac, cc, vs, rfl, -, -, -, -, -⟩ := hf4
  obtain ⟨A, c, rfl, l1, l2, l3, l4⟩ := ht
  unfold maxLen at l2
  have HR := Lib.hid l4
  have HT := Lib.hid l3
  clear hv hcl l3 l4
  obtain ⟨iT, hiT, hzT0, hzT1, hzT2⟩ := info_parts info_step
  obtain ⟨iI, hiI, hzI0, hzI1, hzI2⟩ := info_parts info_int
  go_enter Tryz.func7, Tryz.ntmps7
  go_wp2_with fail
  have hSS : SS w (w.alloc (.cells #[.int .i64 f.ints, .int .i64 f.bools, .slice Aa f.atoms.length ca, .slice Ac f.clauses.length cc] 35)) #[.int .i64 f.ints, .int .i64 f.bools, .slice Aa f.atoms.length ca, .slice Ac f.clauses.length cc] (.slice none 0 0) [] := ⟨Blk.new w _ _, OwnStps.nil _ _ _, by simp, by go_grown⟩
  generalize w.alloc (.cells #[.int .i64 f.ints, .int .i64 f.bools, .slice Aa f.atoms.length ca, .slice Ac f.clauses.length cc] 35) = W0 at *
  have HSS := Lib.hid hSS
  clear hSS
  go_loopw [5, 15] (fun v i wr => ∃ (k : Nat) (ps : List (Stp × Value)), k ≤ xs.length ∧ k ≤ 40 ∧ i = .int .i64 k ∧ ps.length = k ∧ SS w wr #[.int .i64 f.ints, .int .i64 f.bools, .slice Aa f.atoms.length ca, .slice Ac f.clauses.length cc] v ps ∧ SmL ps) (fun _ i _ => xs.length - (intOf i).toNat)
  case atStart => exact ⟨0, [], by omega, by omega, rfl, rfl, HSS.out, by intro q hq; cases hq⟩
  case round =>
    obtain ⟨k, ps, hk, hk40, rfl, hpk, hss, hsm⟩ := hrel
    have H1 := Lib.hid hss
    have HPK := Lib.hid hpk
    have HSM := Lib.hid hsm
    obtain ⟨Ax, cx, hx, -, -, -⟩ := owns_rd hss.os.1
    subst hx
    have HEND : Hid (StepsRet w (.returned (.slice Ax ps.length cx)) wr) := ⟨_, _, rfl, hss.os.stps, by simp; omega, fun s hs => by obtain ⟨q, hq, rfl⟩ := List.mem_map.1 hs; exact hsm q hq, hss.bl⟩
    clear hss hpk hsm
    by_cases hlt : k < xs.length
    · obtain ⟨⟨x0, x1, x2⟩, hp⟩ : ∃ p, xs[k]? = some p := ⟨_, List.getElem?_eq_getElem hlt⟩
      obtain ⟨b1, o1, rfl, hb1, t0, t1, t2⟩ := Trips.at_ (HR.out.keep H1.out.bl) hp
      obtain ⟨⟨g0, g1⟩, ⟨g2, g3⟩, ⟨g4, g5⟩⟩ := HT.out _ (List.mem_of_getElem? hp)
      simp only at t0 t1 t2 g0 g1 g2 g3 g4 g5
      clear hp
      by_cases hge : 40 ≤ k
      · have d40 : decide ((40 : Int) ≤ (k : Int)) = true := by simp; omega
        go_wp2_with fail
        go_ret
        obtain ⟨v, l, he, h2, h3, h4, h5⟩ := HEND.out
        have hkeep : Below wr.heap.size wr (wr.alloc (.cells #[.int .u8 x0, .int .u8 x1, .int .u8 x2] 22)) := (Below.refl _ _).alloc (Nat.le_refl _) _
        exact ⟨v, l, he, h2.keep hkeep, h3, h4, h5.trans (hkeep.mono h5.size)⟩
      · have d40 : decide ((40 : Int) ≤ (k : Int)) = false := by simp; omega
        go_wp2_with fail
        go_quiet (fail)
        have H2 : Hid (SS w ((wr.alloc (.cells #[.int .u8 x0, .int .u8 x1, .int .u8 x2] 22)).drewN nq) #[.int .i64 f.ints, .int .i64 f.bools, .slice Aa f.atoms.length ca, .slice Ac f.clauses.length cc] (.slice Ax ps.length cx) ps) := H1.out.keep (bdrew ((Below.refl _ _).alloc (Nat.le_refl _) _) nq)
        have B1 : Blk ((wr.alloc (.cells #[.int .u8 x0, .int .u8 x1, .int .u8 x2] 22)).drewN nq) wr.heap.size 22 #[.int .u8 x0, .int .u8 x1, .int .u8 x2] := (Blk.new wr _ _).drewN nq
        generalize (wr.alloc (.cells #[.int .u8 x0, .int .u8 x1, .int .u8 x2] 22)).drewN nq = W at *
        have r0 := B1.cell 0
        have q0 := H2.out.b0.cell 0
        have q1 := H2.out.b0.cell 1
        have q2 := H2.out.b0.cell 2
        have q3 := H2.out.b0.cell 3
        simp only [List.getElem?_toArray, List.getElem?_cons_zero, List.getElem?_cons_succ] at r0 q0 q1 q2 q3
        have hown : ∀ g, (Value.slice Ax ps.length cx).ownBlock = some g → g < W.heap.size := fun g e => (H2.out.os.1.lt g e).2
        have HOW := Lib.hid hown
        clear B1 t0 t1 t2 d40 hown
        have m1 : 0 ≤ x0 % 8 := Int.emod_nonneg _ (by omega)
        have m2 : x0 % 8 < 8 := Int.emod_lt_of_pos _ (by omega)
        by_cases c0 : x0 % 8 = 0 ∨ x0 % 8 = 1
        · have hn0 : 0 ≤ x1 % ((f.clauses.length : Int) + 1) := Int.emod_nonneg _ (by omega)
          have hn1 : x1 % ((f.clauses.length : Int) + 1) < (f.clauses.length : Int) + 1 := Int.emod_lt_of_pos _ (by omega)
          have hd0 : 0 ≤ x2 / 250 := by omega
          have hd1 : x2 / 250 ≤ 1 := by omega
          rcases c0 with c0 | c0
          · have e0 : ((x0 % 8 : Int) == 0) = true := by simp [c0]
            clear c0
            go_wp2_with (at_builtin; refine wpList_append_own_at _ rfl _ _ 30 rfl (w.heap.size + 1) 53 iT zT 6 64 Tryz.underlying30 hiT hzT0 hzT1 hzT2 rfl (by decide) _ _ _ rfl (H2.out.os.1.alloc _) ⟨W.heap.size, 0, none⟩ 1 1 [.int .i64 1, .int .i64 (x1 % ((f.clauses.length : Int) + 1) - x2 / 250), .slice none 0 0, .int .i64 0, .int .i64 0, .int .i64 0] rfl rfl (cells_at (W) _ [.int .i64 1, .int .i64 (x1 % ((f.clauses.length : Int) + 1) - x2 / 250), .slice none 0 0, .int .i64 0, .int .i64 0, .int .i64 0] rfl) ?b2 ?b3 ?b4 ?b5 ?_)
            case b2 => first | exact ⟨rfl, rfl, rfl, rfl⟩ | rfl | (intro u hu; simp at hu; rcases hu with rfl | rfl | rfl | rfl | rfl | rfl <;> rfl)
            case b3 => have := HPK.out; unfold maxLen; omega
            case b4 => have := HPK.out; omega
            case b5 => have := H2.out.hi; first | omega | (simp at this ⊢; omega)
            intro v' w5 hown' hgrow _ hat
            have H7 := Lib.hid (H2.out.push (s := ⟨1, x1 % ((f.clauses.length : Int) + 1) - x2 / 250, [], 0, 0, 0⟩) (lv := (.slice none 0 0)) (intsO_nil _ _) ⟨⟨by simp, by simp⟩, ⟨by simp only; omega, by simp only; omega⟩, ⟨by simp, by simp⟩, ⟨by simp, by simp⟩, ⟨by simp, by simp⟩⟩ hown' hgrow (by simpa using hat))
            obtain ⟨Ap, cp, hvp, -, -, -⟩ := owns_rd hown'
            subst hvp
            clear hown' hgrow hat
            go_wp2_with fail
            go_roundw
            case rel => exact ⟨k + 1, ps ++ [(⟨1, x1 % ((f.clauses.length : Int) + 1) - x2 / 250, [], 0, 0, 0⟩, (.slice none 0 0))], by omega, by omega, by go_num, by simp [HPK.out], H7.out, sm_push HSM.out (by simp)⟩
            case measure => simp [intOf]; omega
          · have e0 : ((x0 % 8 : Int) == 0) = false := by simp [c0]
            have e1 : ((x0 % 8 : Int) == 1) = true := by simp [c0]
            clear c0
            go_wp2_with (at_builtin; refine wpList_append_own_at _ rfl _ _ 30 rfl (w.heap.size + 1) 53 iT zT 6 64 Tryz.underlying30 hiT hzT0 hzT1 hzT2 rfl (by decide) _ _ _ rfl (H2.out.os.1.alloc _) ⟨W.heap.size, 0, none⟩ 1 1 [.int .i64 1, .int .i64 (x1 % ((f.clauses.length : Int) + 1) - x2 / 250), .slice none 0 0, .int .i64 0, .int .i64 0, .int .i64 0] rfl rfl (cells_at (W) _ [.int .i64 1, .int .i64 (x1 % ((f.clauses.length : Int) + 1) - x2 / 250), .slice none 0 0, .int .i64 0, .int .i64 0, .int .i64 0] rfl) ?c2 ?c3 ?c4 ?c5 ?_)
            case c2 => first | exact ⟨rfl, rfl, rfl, rfl⟩ | rfl | (intro u hu; simp at hu; rcases hu with rfl | rfl | rfl | rfl | rfl | rfl <;> rfl)
            case c3 => have := HPK.out; unfold maxLen; omega
            case c4 => have := HPK.out; omega
            case c5 => have := H2.out.hi; first | omega | (simp at this ⊢; omega)
            intro v' w5 hown' hgrow _ hat
            have H7 := Lib.hid (H2.out.push (s := ⟨1, x1 % ((f.clauses.length : Int) + 1) - x2 / 250, [], 0, 0, 0⟩) (lv := (.slice none 0 0)) (intsO_nil _ _) ⟨⟨by simp, by simp⟩, ⟨by simp only; omega, by simp only; omega⟩, ⟨by simp, by simp⟩, ⟨by simp, by simp⟩, ⟨by simp, by simp⟩⟩ hown' hgrow (by simpa using hat))
            obtain ⟨Ap, cp, hvp, -, -, -⟩ := owns_rd hown'
            subst hvp
            clear hown' hgrow hat
            go_wp2_with fail
            go_roundw
            case rel => exact ⟨k + 1, ps ++ [(⟨1, x1 % ((f.clauses.length : Int) + 1) - x2 / 250, [], 0, 0, 0⟩, (.slice none 0 0))], by omega, by omega, by go_num, by simp [HPK.out], H7.out, sm_push HSM.out (by simp)⟩
            case measure => simp [intOf]; omega
        · have e0 : ((x0 % 8 : Int) == 0) = false := by simp; omega
          have e1 : ((x0 % 8 : Int) == 1) = false := by simp; omega
          by_cases c2 : x0 % 8 = 2
          · have e2 : ((x0 % 8 : Int) == 2) = true := by simp [c2]
            clear c0 c2
            go_wp2_with fail
            go_loopw [10, 11] (fun lv j wq => ∃ (n : Nat) (ls : List Int), (n : Int) ≤ 1 + x2 % 3 ∧ j = .int .i64 n ∧ ls.length = n ∧ SS w wq #[.int .i64 f.ints, .int .i64 f.bools, .slice Aa f.atoms.length ca, .slice Ac f.clauses.length cc] (.slice Ax ps.length cx) ps ∧ OwnStps wq (w.heap.size + 1) (fun b => w.heap.size + 1 ≤ b ∧ b < W.heap.size) (.slice Ax ps.length cx) ps ∧ Own wq W.heap.size lv ls ∧ W.heap.size ≤ wq.heap.size) (fun _ j _ => (1 + x2 % 3 - intOf j).toNat)
            case atStart => exact ⟨0, [], by omega, rfl, rfl, H2.out, H2.out.os.mono fun b hb hp => ⟨hp, hb⟩, ⟨World.ownsRow_nil _ _ _ _, by simp⟩, Nat.le_refl _⟩
            case round =>
              obtain ⟨wo, rfl⟩ : ∃ wo : World, wo = wr := ⟨_, rfl⟩
              obtain ⟨n, ls, hn, rfl, hln, hss3, hps3, how3, hsz3⟩ := hrel
              have HP5 := Lib.hid hps3
              clear hps3
              have H5 := Lib.hid hss3
              have HO5 := Lib.hid how3
              have HLN := Lib.hid hln
              obtain ⟨Al, cl', hcl', -, -, -⟩ := owns_rd how3.1
              subst hcl'
              have p2 := hss3.b0.cell 2
              simp only [List.getElem?_toArray, List.getElem?_cons_zero, List.getElem?_cons_succ] at p2
              have hx3 : x2 % 3 ≤ 2 := by omega
              clear hss3 how3 hln
              by_cases hnt : (n : Int) < 1 + x2 % 3
              · have dn : decide ((n : Int) < 1 + x2 % 3) = true := by simpa using hnt
                have hz0 : 0 ≤ (x1 + (n : Int)) % (f.atoms.length : Int) := Int.emod_nonneg _ (by omega)
                have hz1 : (x1 + (n : Int)) % (f.atoms.length : Int) < (f.atoms.length : Int) := Int.emod_lt_of_pos _ (by omega)
                have hal2 : ¬ f.atoms.length = 0 := by omega
                by_cases hbit : (bits .and .i64 (x2 / 2 ^ n) 4 != 0) = true
                · have dbit : (bits .and .i64 (x2 / 2 ^ n) 4 != 0) = true := hbit
                  go_wp2_with (at_builtin; refine wpList_append_own_at _ rfl _ _ 44 rfl W.heap.size 3 iI (.int .i64 0) 1 8 Tryz.underlying44 hiI hzI0 hzI1 hzI2 rfl (by decide) _ _ _ rfl (HO5.out.1.alloc _) ⟨wo.heap.size, 0, none⟩ 1 1 [.int .i64 (-(1 + (x1 + (n : Int)) % (f.atoms.length : Int)))] rfl rfl ?m1 ?m2 ?m3 ?m4 ?m5 ?_)
                  case m1 => exact one_at wo _ _
                  case m2 => intro u hu; simp at hu; subst hu; rfl
                  case m3 => have := HLN.out; unfold maxLen; omega
                  case m4 => have := HLN.out; omega
                  case m5 => simp; omega
                  intro c' w6 hown' hgrow _ hat
                  obtain ⟨h6, h6'⟩ := (H5.out.keep (by go_grown)).row (HP5.out.keep (by go_grown)) hgrow (fun g e => (HO5.out.1.lt g e).1) HOW.out H2.out.hi
                  have H6 := Lib.hid h6
                  have HP6 := Lib.hid h6'
                  have HO6 : Hid (Own w6 W.heap.size c' (ls ++ [-(1 + (x1 + (n : Int)) % (f.atoms.length : Int))])) := by
                    refine Lib.hid ⟨by simpa using hown', fun z hz => ?_⟩
                    rcases List.mem_append.1 hz with hz | hz
                    · exact HO5.out.2 z hz
                    · rw [List.mem_singleton] at hz; subst hz; constructor <;> omega
                  have hsz6 : W.heap.size ≤ w6.heap.size := by have := hgrow.size; simp at this; omega
                  clear hown' hgrow hat h6 h6' dbit hbit p2
                  go_wp2_with fail
                  go_roundw
                  case rel => exact ⟨n + 1, ls ++ [-(1 + (x1 + (n : Int)) % (f.atoms.length : Int))], by omega, by go_num, by simp [HLN.out], H6.out, HP6.out, HO6.out, hsz6⟩
                  case measure => simp [intOf]; omega
                · have dbit : (bits .and .i64 (x2 / 2 ^ n) 4 != 0) = false := by simpa using hbit
                  go_wp2_with (at_builtin; refine wpList_append_own_at _ rfl _ _ 44 rfl W.heap.size 3 iI (.int .i64 0) 1 8 Tryz.underlying44 hiI hzI0 hzI1 hzI2 rfl (by decide) _ _ _ rfl (HO5.out.1.alloc _) ⟨wo.heap.size, 0, none⟩ 1 1 [.int .i64 (1 + (x1 + (n : Int)) % (f.atoms.length : Int))] rfl rfl ?n1 ?n2 ?n3 ?n4 ?n5 ?_)
                  case n1 => exact one_at wo _ _
                  case n2 => intro u hu; simp at hu; subst hu; rfl
                  case n3 => have := HLN.out; unfold maxLen; omega
                  case n4 => have := HLN.out; omega
                  case n5 => simp; omega
                  intro c' w6 hown' hgrow _ hat
                  obtain ⟨h6, h6'⟩ := (H5.out.keep (by go_grown)).row (HP5.out.keep (by go_grown)) hgrow (fun g e => (HO5.out.1.lt g e).1) HOW.out H2.out.hi
                  have H6 := Lib.hid h6
                  have HP6 := Lib.hid h6'
                  have HO6 : Hid (Own w6 W.heap.size c' (ls ++ [1 + (x1 + (n : Int)) % (f.atoms.length : Int)])) := by
                    refine Lib.hid ⟨by simpa using hown', fun z hz => ?_⟩
                    rcases List.mem_append.1 hz with hz | hz
                    · exact HO5.out.2 z hz
                    · rw [List.mem_singleton] at hz; subst hz; constructor <;> omega
                  have hsz6 : W.heap.size ≤ w6.heap.size := by have := hgrow.size; simp at this; omega
                  clear hown' hgrow hat h6 h6' dbit hbit p2
                  go_wp2_with fail
                  go_roundw
                  case rel => exact ⟨n + 1, ls ++ [1 + (x1 + (n : Int)) % (f.atoms.length : Int)], by omega, by go_num, by simp [HLN.out], H6.out, HP6.out, HO6.out, hsz6⟩
                  case measure => simp [intOf]; omega
              · have dn : decide ((n : Int) < 1 + x2 % 3) = false := by simpa using hnt
                go_wp2_with (at_builtin; refine wpList_append_own_at _ rfl _ _ 30 rfl (w.heap.size + 1) 53 iT zT 6 64 Tryz.underlying30 hiT hzT0 hzT1 hzT2 rfl (by decide) _ _ _ rfl (H5.out.os.1.alloc _) ⟨wo.heap.size, 0, none⟩ 1 1 [.int .i64 2, .int .i64 0, .slice Al ls.length cl', .int .i64 0, .int .i64 0, .int .i64 0] rfl rfl (cells_at (wo) _ [.int .i64 2, .int .i64 0, .slice Al ls.length cl', .int .i64 0, .int .i64 0, .int .i64 0] rfl) ?f2 ?f3 ?f4 ?f5 ?_)
                case f2 => first | exact ⟨rfl, rfl, rfl, rfl⟩ | rfl | (intro u hu; simp at hu; rcases hu with rfl | rfl | rfl | rfl | rfl | rfl <;> rfl)
                case f3 => have := HPK.out; unfold maxLen; omega
                case f4 => have := HPK.out; omega
                case f5 => have := H5.out.hi; first | omega | (simp at this ⊢; omega)
                intro v' w5 hown' hgrow _ hat
                have H7 := Lib.hid (H5.out.push (s := ⟨2, 0, ls, 0, 0, 0⟩) (lv := (.slice Al ls.length cl')) (HO5.out.intsO fun b hb _ _ => ⟨by have := H2.out.hi; omega, fun e => by have := HOW.out b e.symm; omega⟩) ⟨⟨by simp, by simp⟩, ⟨by simp, by simp⟩, ⟨by simp, by simp⟩, ⟨by simp, by simp⟩, ⟨by simp, by simp⟩⟩ hown' hgrow (by simpa using hat))
                obtain ⟨Ap, cp, hvp, -, -, -⟩ := owns_rd hown'
                subst hvp
                clear hown' hgrow hat
                go_wp2_with fail
                go_roundw
                case rel => exact ⟨k + 1, ps ++ [(⟨2, 0, ls, 0, 0, 0⟩, (.slice Al ls.length cl'))], by omega, by omega, by go_num, by simp [HPK.out], H7.out, sm_push HSM.out (by have := HLN.out; simp only; omega)⟩
                case measure => simp [intOf]; omega
          · have e2 : ((x0 % 8 : Int) == 2) = false := by simp [c2]
            by_cases c7 : x0 % 8 = 7
            · have e7 : ((x0 % 8 : Int) == 7) = true := by simp [c7]
              clear c0 c2 c7
              have hm6 : 0 ≤ x1 % 6 ∧ x1 % 6 ≤ 5 := by omega
              have H3 : Hid (SS w (W.alloc (.cells #[.int .i64 x1, .int .i64 (-x2)] 3)) #[.int .i64 f.ints, .int .i64 f.bools, .slice Aa f.atoms.length ca, .slice Ac f.clauses.length cc] (.slice Ax ps.length cx) ps) := H2.out.keep (by go_grown)
              have B2 := Blk.new W 3 #[.int .i64 x1, .int .i64 (-x2)]
              have HB2 := Lib.hid B2
              clear B2
              go_wp2_with (at_builtin; refine wpList_append_own_at _ rfl _ _ 30 rfl (w.heap.size + 1) 53 iT zT 6 64 Tryz.underlying30 hiT hzT0 hzT1 hzT2 rfl (by decide) _ _ _ rfl (H3.out.os.1.alloc _) ⟨W.heap.size + 1, 0, none⟩ 1 1 [.int .i64 (x1 % 6), .int .i64 x2, .slice (some ⟨W.heap.size, 0, none⟩) 2 2, .int .i64 x1, .int .i64 x2, .int .i64 0] rfl rfl (cells_at (W.alloc (.cells #[.int .i64 x1, .int .i64 (-x2)] 3)) _ [.int .i64 (x1 % 6), .int .i64 x2, .slice (some ⟨W.heap.size, 0, none⟩) 2 2, .int .i64 x1, .int .i64 x2, .int .i64 0] (by simp)) ?d2 ?d3 ?d4 ?d5 ?_)
              case d2 => first | exact ⟨rfl, rfl, rfl, rfl⟩ | rfl | (intro u hu; simp at hu; rcases hu with rfl | rfl | rfl | rfl | rfl | rfl <;> rfl)
              case d3 => have := HPK.out; unfold maxLen; omega
              case d4 => have := HPK.out; omega
              case d5 => have := H3.out.hi; first | omega | (simp at this ⊢; omega)
              intro v' w5 hown' hgrow _ hat
              have H7 := Lib.hid (H3.out.push (s := ⟨x1 % 6, x2, [x1, -x2], x1, x2, 0⟩) (lv := (.slice (some ⟨W.heap.size, 0, none⟩) 2 2)) (pairO HB2.out ⟨by omega, by omega⟩ ⟨by omega, by omega⟩ ⟨H2.out.hi, fun e => by have := HOW.out _ e.symm; omega⟩) ⟨⟨by simp only; omega, by simp only; omega⟩, ⟨by simp only; omega, by simp only; omega⟩, ⟨by simp only; omega, by simp only; omega⟩, ⟨by simp only; omega, by simp only; omega⟩, ⟨by simp, by simp⟩⟩ hown' hgrow (by simpa using hat))
              obtain ⟨Ap, cp, hvp, -, -, -⟩ := owns_rd hown'
              subst hvp
              clear hown' hgrow hat
              go_wp2_with fail
              go_roundw
              case rel => exact ⟨k + 1, ps ++ [(⟨x1 % 6, x2, [x1, -x2], x1, x2, 0⟩, (.slice (some ⟨W.heap.size, 0, none⟩) 2 2))], by omega, by omega, by go_num, by simp [HPK.out], H7.out, sm_push HSM.out (by simp)⟩
              case measure => simp [intOf]; omega
            · have e7 : ((x0 % 8 : Int) == 7) = false := by simp [c7]
              clear c0 c2 c7
              go_wp2_with fail
              refine (sresolve_any _ _ f (ps.map (·.1)) x1 x2 _ (HF.out.keep H2.out.bl) H2.out.os.stps ⟨HV.out, HCL.out, by simp [HPK.out]; omega, fun s hs => by obtain ⟨q, hq, rfl⟩ := List.mem_map.1 hs; have := HSM.out q hq; omega⟩ hbl g2 g3 g4 g5).mono ?_
              rintro e w4 ⟨s, rfl, hsl, hsk, hb4⟩
              have H4 := Lib.hid (H2.out.keep hb4)
              have HSK := Lib.hid hsk
              have HSL := Lib.hid hsl
              clear hb4 hsk hsl q0 q1 q2 q3 r0
              rw [show Stp.val s (.slice none 0 0) = .agg #[.int .i64 s.kind, .int .i64 s.index, .slice none 0 0, .int .i64 s.p, .int .i64 s.q, .int .i64 s.var] from rfl]
              go_wp2_with (at_builtin; refine wpList_append_own_at _ rfl _ _ 30 rfl (w.heap.size + 1) 53 iT zT 6 64 Tryz.underlying30 hiT hzT0 hzT1 hzT2 rfl (by decide) _ _ _ rfl (H4.out.os.1.alloc _) ⟨w4.heap.size, 0, none⟩ 1 1 [.int .i64 s.kind, .int .i64 s.index, .slice none 0 0, .int .i64 s.p, .int .i64 s.q, .int .i64 s.var] rfl rfl (cells_at (w4) _ [.int .i64 s.kind, .int .i64 s.index, .slice none 0 0, .int .i64 s.p, .int .i64 s.q, .int .i64 s.var] rfl) ?e2 ?e3 ?e4 ?e5 ?_)
              case e2 => first | exact ⟨rfl, rfl, rfl, rfl⟩ | rfl | (intro u hu; simp at hu; rcases hu with rfl | rfl | rfl | rfl | rfl | rfl <;> rfl)
              case e3 => have := HPK.out; unfold maxLen; omega
              case e4 => have := HPK.out; omega
              case e5 => have := H4.out.hi; first | omega | (simp at this ⊢; omega)
              intro v' w5 hown' hgrow _ hat
              have H7 := Lib.hid (H4.out.push (s := s) (lv := (.slice none 0 0)) (by rw [HSL.out]; exact intsO_nil _ _) HSK.out hown' hgrow (by simpa using hat))
              obtain ⟨Ap, cp, hvp, -, -, -⟩ := owns_rd hown'
              subst hvp
              clear hown' hgrow hat
              go_wp2_with fail
              go_roundw
              case rel => exact ⟨k + 1, ps ++ [(s, (.slice none 0 0))], by omega, by omega, by go_num, by simp [HPK.out], H7.out, sm_push HSM.out (by simp [HSL.out])⟩
              case measure => simp [intOf]; omega
    · go_wp2_with fail
      go_ret
      exact HEND.out
end Go.Proofs.YtfffalfnjficaaaGreatDoor
