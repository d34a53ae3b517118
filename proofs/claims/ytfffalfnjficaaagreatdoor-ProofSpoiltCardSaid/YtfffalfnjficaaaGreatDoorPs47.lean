/-
  WALKS: interleavescene.has and interleavescene.resolve.
-/
import Derived.Test.YtfffalfnjficaaaGreatDoorPs46
import Derived.RegionTactic
import Derived.ChangeAlike
namespace Go.Proofs.YtfffalfnjficaaaGreatDoor
open Go.RowKit

set_option maxRecDepth 100000 in
theorem has_any (v : Value) (zs : List Int) (x : Int) (w : World) (hv : Ints w v zs) :
    Calls Tryz.prog 36 #[v, .int .i64 x] w fun e w' => e = .returned (.bool (decide (x ∈ zs))) ∧ w = w' := by
  obtain ⟨A, c, rfl, h1, h2, h3, hr⟩ := hv
  unfold maxLen at h2
  have HR := Lib.hid hr
  clear h3 hr
  go_enter Tryz.func36, Tryz.ntmps36
  go_wp2_with fail
  go_loop [9] (fun i => ∃ k : Nat, k ≤ zs.length ∧ i = .int .i64 k ∧ x ∉ zs.take k) (fun i => zs.length - (intOf i).toNat)
  case atStart => exact ⟨0, by omega, rfl, by simp⟩
  case round =>
    obtain ⟨k, hk, rfl, hno⟩ := hrel
    have HNO := Lib.hid hno
    clear hno
    by_cases hlt : k < zs.length
    · obtain ⟨y, hy⟩ : ∃ y, zs[k]? = some y := ⟨_, List.getElem?_eq_getElem hlt⟩
      obtain ⟨b, o, rfl, hb, hc⟩ := HR.out.int hy
      have HY := Lib.hid hy
      clear hy
      by_cases e : y = x
      · have de : (x == y) = true := by simp [e]
        have HIN : Hid (x ∈ zs) := e ▸ List.mem_of_getElem? HY.out
        clear e
        go_wp2_with fail
        go_ret
        exact ⟨ret_bool (by simp [HIN.out]), rfl⟩
      · have de : (x == y) = false := by simp; exact fun h => e h.symm
        have HN : Hid (x ∉ zs.take (k + 1)) := by
          refine Lib.hid ?_
          rw [take_succ_of HY.out]
          simp only [List.mem_append, List.mem_singleton, not_or]
          exact ⟨HNO.out, fun h => e h.symm⟩
        clear e
        go_wp2_with fail
        go_round
        case rel => exact ⟨k + 1, by omega, by go_num, HN.out⟩
        case measure => simp [intOf]; omega
    · have HN : Hid (x ∉ zs) := by
        have h := HNO.out
        rwa [List.take_of_length_le (by omega)] at h
      go_wp2_with fail
      go_ret
      exact ⟨ret_bool (by simp [HN.out]), rfl⟩


/-- What resolve returns: a step of kind 3 without literals. -/
def SRes (w : World) (e : Ending) (w' : World) : Prop := ∃ s : Stp, e = .returned (s.val (.slice none 0 0)) ∧ s.lits = [] ∧ s.ok ∧ Below w.heap.size w w'

theorem tmod_fact (x : Int) (n : Nat) (h0 : 0 ≤ x) (hn : 0 < n) (hb : n ≤ 1000000) : ∃ r : Nat, x.tmod (n : Int) = (r : Int) ∧ x % (n : Int) = (r : Int) ∧ r < n ∧ IntKind.i64.wrap (r : Int) = (r : Int) := by
  have h2 : 0 ≤ x % (n : Int) := Int.emod_nonneg _ (by omega)
  have h3 : x % (n : Int) < n := Int.emod_lt_of_pos _ (by omega)
  refine ⟨(x % (n : Int)).toNat, ?_, ?_, ?_, ?_⟩
  · rw [Int.tmod_eq_emod_of_nonneg h0]; omega
  · omega
  · omega
  · exact IntWalk.i64_in _ (by omega)

/-- The blocks of resolve: the formula, the result, the step under way. -/
structure SR (w wr : World) (fv : Array Value) (p q r : Int) : Prop where
  b0 : Blk wr w.heap.size 35 fv
  b1 : Blk wr (w.heap.size + 1) 53 #[.int .i64 0, .int .i64 0, .slice none 0 0, .int .i64 0, .int .i64 0, .int .i64 0]
  b2 : Blk wr (w.heap.size + 1 + 1) 53 #[.int .i64 3, .int .i64 0, .slice none 0 0, .int .i64 p, .int .i64 q, .int .i64 r]
  bl : Below w.heap.size w wr
theorem SR.keep {w wr w' : World} {fv : Array Value} {p q r : Int} (h : SR w wr fv p q r) (hb : Below wr.heap.size wr w') : SR w w' fv p q r :=
  ⟨h.b0.keep hb, h.b1.keep hb, h.b2.keep hb, h.bl.trans (hb.mono h.bl.size)⟩
theorem six_below (w : World) (g B : Nat) (u0 u1 u2 u3 u4 u5 : Value) (h : B ≤ g) : Below B w ((((((w.setCell ⟨g, 0, none⟩ u0).setCell ⟨g, 1, none⟩ u1).setCell ⟨g, 2, none⟩ u2).setCell ⟨g, 3, none⟩ u3).setCell ⟨g, 4, none⟩ u4).setCell ⟨g, 5, none⟩ u5) :=
  ((((((Below.refl B w).setCell (by exact h) u0).setCell (by exact h) u1).setCell (by exact h) u2).setCell (by exact h) u3).setCell (by exact h) u4).setCell (by exact h) u5

set_option maxRecDepth 100000 in
set_option maxHeartbeats 2000000 in
theorem sresolve_any (fv lv : Value) (f : Form) (l : List Stp) (x y : Int) (w : World) (hf : IsForm w fv f) (hl : Stps w lv l) (hq : Asked f l) (hbl : 0 < f.bools) (hx0 : 0 ≤ x) (hx1 : x ≤ 255) (hy0 : 0 ≤ y) (hy1 : y ≤ 255) :
    Calls Tryz.prog 18 #[fv, lv, .int .i64 x, .int .i64 y] w (SRes w) := by
  have HF := Lib.hid hf
  have HQ := Lib.hid hq
  have HL := Lib.hid hl
  obtain ⟨av, cv, rfl, -, -, hf3, hf4⟩ := hf
  obtain ⟨Aa, ca, rfl, -, -, -, -⟩ := hf3
  obtain ⟨Ac, cc, vs, rfl, -, -, -, -, -⟩ := hf4
  obtain ⟨A, c, ps, hps, rfl, l1, l2, -, -⟩ := hl
  unfold maxLen at l2
  have hpl : ps.length = l.length := by rw [hps]; simp
  have HPL := Lib.hid hpl
  have hpn : ps.length ≤ 100000 := by have := hq.2.2.1; omega
  have hb2 : f.bools ≤ 1024 := by have := validF_ok hq.1; omega
  clear hq hps hpl
  by_cases h0 : ps.length = 0
  · have d0 : ((ps.length : Int) == 0) = true := by simp; exact List.eq_nil_of_length_eq_zero h0
    clear h0
    go_enter Tryz.func18, Tryz.ntmps18
    go_wp2_with fail
    exact bodyPost_ret (v := Stp.val ⟨3, 0, [], x, y, 0⟩ (.slice none 0 0)) (by simp [results, Tryz.results18, go_sem, Stp.val]) rfl ⟨_, rfl, rfl, ⟨⟨by simp, by simp⟩, ⟨by simp, by simp⟩, ⟨by simp only; omega, by simp only; omega⟩, ⟨by simp only; omega, by simp only; omega⟩, ⟨by simp, by simp⟩⟩, by go_grown⟩
  · have d0 : ((ps.length : Int) == 0) = false := by simp; intro h; exact h0 (by rw [h]; rfl)
    obtain ⟨n, hn⟩ : ∃ n : Nat, f.bools = n := ⟨f.bools.toNat, by omega⟩
    obtain ⟨p, hp1, hp2, hp3, hp4⟩ := tmod_fact x ps.length hx0 (by omega) (by omega)
    obtain ⟨q, hq1, hq2, hq3, hq4⟩ := tmod_fact y ps.length hy0 (by omega) (by omega)
    obtain ⟨r, hr1, hr2, hr3, hr4⟩ := tmod_fact x n hx0 (by omega) (by omega)
    have y1 : ¬ ps.length = 0 := h0
    have y2 : ¬ n = 0 := by omega
    have y1' : ¬ (ps.length : Int) = 0 := by omega
    have y2' : ¬ (n : Int) = 0 := by omega
    rw [hn] at HF ⊢
    have HFB := Lib.hid hn
    have hn2 : n ≤ 1024 := by omega
    clear h0 hn
    go_enter Tryz.func18, Tryz.ntmps18
    go_wp2_with fail
    go_region
    have hSR : SR w (((w.alloc (.cells #[.int .i64 f.ints, .int .i64 (n : Int), .slice Aa f.atoms.length ca, .slice Ac f.clauses.length cc] 35)).alloc (.cells #[.int .i64 0, .int .i64 0, .slice none 0 0, .int .i64 0, .int .i64 0, .int .i64 0] 53)).alloc (.cells #[.int .i64 3, .int .i64 0, .slice none 0 0, .int .i64 (p : Int), .int .i64 (q : Int), .int .i64 (r : Int)] 53)).drew #[.int .i64 f.ints, .int .i64 (n : Int), .slice Aa f.atoms.length ca, .slice Ac f.clauses.length cc] (p : Int) (q : Int) (r : Int) := by
      have b0 := Blk.new w 35 #[.int .i64 f.ints, .int .i64 (n : Int), .slice Aa f.atoms.length ca, .slice Ac f.clauses.length cc]
      have b1 := Blk.new (w.alloc (.cells #[.int .i64 f.ints, .int .i64 (n : Int), .slice Aa f.atoms.length ca, .slice Ac f.clauses.length cc] 35)) 53 #[.int .i64 0, .int .i64 0, .slice none 0 0, .int .i64 0, .int .i64 0, .int .i64 0]
      have b2 := Blk.new ((w.alloc (.cells #[.int .i64 f.ints, .int .i64 (n : Int), .slice Aa f.atoms.length ca, .slice Ac f.clauses.length cc] 35)).alloc (.cells #[.int .i64 0, .int .i64 0, .slice none 0 0, .int .i64 0, .int .i64 0, .int .i64 0] 53)) 53 #[.int .i64 3, .int .i64 0, .slice none 0 0, .int .i64 (p : Int), .int .i64 (q : Int), .int .i64 (r : Int)]
      simp only [World.size_alloc] at b1 b2
      exact ⟨(b0.alloc _).alloc _, b1.alloc _, b2, (by go_grown : Below w.heap.size w _)⟩
    generalize (((w.alloc (.cells #[.int .i64 f.ints, .int .i64 (n : Int), .slice Aa f.atoms.length ca, .slice Ac f.clauses.length cc] 35)).alloc (.cells #[.int .i64 0, .int .i64 0, .slice none 0 0, .int .i64 0, .int .i64 0, .int .i64 0] 53)).alloc (.cells #[.int .i64 3, .int .i64 0, .slice none 0 0, .int .i64 (p : Int), .int .i64 (q : Int), .int .i64 (r : Int)] 53)).drew = W at *
    have HSR0 := Lib.hid hSR
    have q0 := hSR.b0.cell 0
    have q1 := hSR.b0.cell 1
    have q2 := hSR.b0.cell 2
    have q3 := hSR.b0.cell 3
    simp only [List.getElem?_toArray, List.getElem?_cons_zero, List.getElem?_cons_succ] at q0 q1 q2 q3
    have hBool : Hid (IsForm w (.agg #[.int .i64 f.ints, .int .i64 (n : Int), .slice Aa f.atoms.length ca, .slice Ac f.clauses.length cc]) f) := HF.out
    clear hSR hp1 hp2 hp4 hq1 hq2 hq4 hr1 hr2 hr4 y1 y2 y1' y2'
    go_wp2_with fail
    refine (rclauses_any _ _ f l _ (hBool.out.keep HSR0.out.bl) (HL.out.keep HSR0.out.bl) HQ.out).mono ?_
    rintro e w2 hret
    cases hr : runS f [] l with
    | mk cs ok =>
      have HR := Lib.hid hr
      rw [hr] at hret
      have hb2' : Below W.heap.size W w2 := by
        rcases hret with ⟨_, _, _, _, _, h⟩ | ⟨_, _, h⟩ <;> exact h
      have HSR := Lib.hid (HSR0.out.keep hb2')
      clear hr hb2' q0 q1 q2 q3
      have q0 := HSR.out.b0.cell 0
      have q1 := HSR.out.b0.cell 1
      have q2 := HSR.out.b0.cell 2
      have q3 := HSR.out.b0.cell 3
      have s0 := HSR.out.b2.cell 0
      have s1 := HSR.out.b2.cell 1
      have s2 := HSR.out.b2.cell 2
      have s3 := HSR.out.b2.cell 3
      have s4 := HSR.out.b2.cell 4
      have s5 := HSR.out.b2.cell 5
      have t0 := HSR.out.b1.cell 0
      have t1 := HSR.out.b1.cell 1
      have t2 := HSR.out.b1.cell 2
      have t3 := HSR.out.b1.cell 3
      have t4 := HSR.out.b1.cell 4
      have t5 := HSR.out.b1.cell 5
      have z0 := HSR.out.b1.frozen 0
      have z1 := HSR.out.b1.frozen 1
      have z2 := HSR.out.b1.frozen 2
      have z3 := HSR.out.b1.frozen 3
      have z4 := HSR.out.b1.frozen 4
      have z5 := HSR.out.b1.frozen 5
      have y3 := HSR.out.b2.frozen 3
      have y4 := HSR.out.b2.frozen 4
      have y5 := HSR.out.b2.frozen 5
      simp only [List.getElem?_toArray, List.getElem?_cons_zero, List.getElem?_cons_succ] at q0 q1 q2 q3 s0 s1 s2 s3 s4 s5 t0 t1 t2 t3 t4 t5
      rcases hret with ⟨h1, v, rfl, us, hom, hb⟩ | ⟨h1, rfl, hb⟩
      · simp only at h1
        subst h1
        have hcl : cs.length = ps.length := by have := runS_len (f := f) l [] (by rw [HR.out]); rw [HR.out] at this; simpa [HPL.out] using this
        have hul : us.length = ps.length := by rw [hom.2.1]; exact hcl
        have HM := Lib.hid hom.mat
        obtain ⟨P, hP⟩ : ∃ c, cs[p]? = some c := ⟨_, List.getElem?_eq_getElem (by omega)⟩
        obtain ⟨Q, hQ⟩ : ∃ c, cs[q]? = some c := ⟨_, List.getElem?_eq_getElem (by omega)⟩
        have hokP : OkCl P := by have := runS_ok HQ.out.1 l [] (by simp); rw [HR.out] at this; exact this P (List.mem_of_getElem? hP)
        obtain ⟨Ax, cx, vs', hx, -, -, g3, g4, g5⟩ := hom.mat
        subst hx
        obtain ⟨b, off, A1, c1, rfl, hbb, hcellP, hIP⟩ := Mat.at_ g4 g3 g5 hP
        obtain ⟨b', off', A2, c2, hAb', hb', hcellQ, hIQ⟩ := Mat.at_ g4 g3 g5 hQ
        injection hAb' with yy
        injection yy with yy1 yy2
        subst yy1 yy2
        have HIP := Lib.hid hIP
        have HIQ := Lib.hid hIQ
        have HOP := Lib.hid hokP
        have hpu : p < cs.length := by omega
        have hqu : q < cs.length := by omega
        obtain ⟨Ap, cp, hpv, hp1, hp2, hp3', hp4⟩ := hIP
        injection hpv with e1 e2 e3
        subst e1 e3
        unfold maxLen at hp2
        have HP4 := Lib.hid hp4
        have HX3 := Lib.hid hp3'
        have hPl := hokP.len
        clear hb hom hcl hul hP hQ hokP g3 g4 g5 hIQ hp4 hp3' e2
        go_wp2_with fail
        go_loop [48] (fun i_ => ∃ k : Nat, k ≤ P.length ∧ i_ = .int .i64 k) (fun i_ => P.length - (intOf i_).toNat)
        case atStart => exact ⟨0, by omega, rfl⟩
        case round =>
          obtain ⟨k, hk, rfl⟩ := hrel
          by_cases hlt : k < P.length
          · obtain ⟨z, hz⟩ : ∃ z, P[k]? = some z := ⟨_, List.getElem?_eq_getElem hlt⟩
            obtain ⟨bz, oz, rfl, hbz, hcz⟩ := HP4.out.int hz
            have hzo := HOP.out.2 z (List.mem_of_getElem? hz)
            obtain ⟨zo0, zo1, zo2⟩ := hzo
            have HNA : Hid ((z.natAbs : Int) ≤ 1024 ∧ 1 ≤ (z.natAbs : Int)) := ⟨by omega, by omega⟩
            clear hz
            go_wp2_with fail
            refine (has_any _ Q (-z) _ HIQ.out).mono ?_
            rintro e w' ⟨rfl, rfl⟩
            generalize decide (-z ∈ Q) = bq
            cases bq
            · go_wp2_with fail
              go_round
              case rel => exact ⟨k + 1, by omega, by go_num⟩
              case measure => simp [intOf]; omega
            · by_cases hneg : z < 0
              · have dz : decide (z < 0) = true := by simpa using hneg
                go_wp2_with fail
                refine (abs_any z _ ⟨by omega, by omega⟩ (by omega)).mono ?_
                rintro e w3 ⟨rfl, rfl⟩
                obtain ⟨na1, na2⟩ := HNA.out
                generalize (z.natAbs : Int) = na at *
                go_wp2_with fail
                refine bodyPost_ret (v := Stp.val ⟨3, 0, [], (q : Int), (p : Int), na - 1⟩ (.slice none 0 0)) (by simp [results, Tryz.results18, go_sem, Stp.val, t0, t1, t2, t3, t4, t5]) rfl ⟨_, rfl, rfl, ⟨⟨by simp, by simp⟩, ⟨by simp, by simp⟩, ⟨by simp only; omega, by simp only; omega⟩, ⟨by simp only; omega, by simp only; omega⟩, ⟨by simp only; omega, by simp only; omega⟩⟩, ?_⟩
                exact (((HSR.out.bl.setCell (by simp; omega) _).setCell (by simp; omega) _).setCell (by simp; omega) _).trans (six_below _ _ _ _ _ _ _ _ _ (by omega))
              · have dz : decide (z < 0) = false := by simpa using hneg
                go_wp2_with fail
                refine (abs_any z _ ⟨by omega, by omega⟩ (by omega)).mono ?_
                rintro e w3 ⟨rfl, rfl⟩
                obtain ⟨na1, na2⟩ := HNA.out
                generalize (z.natAbs : Int) = na at *
                go_wp2_with fail
                refine bodyPost_ret (v := Stp.val ⟨3, 0, [], (p : Int), (q : Int), na - 1⟩ (.slice none 0 0)) (by simp [results, Tryz.results18, go_sem, Stp.val, t0, t1, t2, t3, t4, t5]) rfl ⟨_, rfl, rfl, ⟨⟨by simp, by simp⟩, ⟨by simp, by simp⟩, ⟨by simp only; omega, by simp only; omega⟩, ⟨by simp only; omega, by simp only; omega⟩, ⟨by simp only; omega, by simp only; omega⟩⟩, ?_⟩
                exact (HSR.out.bl.setCell (by simp; omega) _).trans (six_below _ _ _ _ _ _ _ _ _ (by omega))
          · go_wp2_with fail
            refine bodyPost_ret (v := Stp.val ⟨3, 0, [], (p : Int), (q : Int), (r : Int)⟩ (.slice none 0 0)) (by simp [results, Tryz.results18, go_sem, Stp.val, t0, t1, t2, t3, t4, t5]) rfl ⟨_, rfl, rfl, ⟨⟨by simp, by simp⟩, ⟨by simp, by simp⟩, ⟨by simp only; omega, by simp only; omega⟩, ⟨by simp only; omega, by simp only; omega⟩, ⟨by simp only; omega, by simp only; omega⟩⟩, ?_⟩
            exact HSR.out.bl.trans (six_below _ _ _ _ _ _ _ _ _ (by omega))
      · simp only at h1
        subst h1
        have dn : decide ((0 : Int) ≤ (cs.length : Int)) = true := by simp
        clear hb
        go_wp2_with fail
        refine bodyPost_ret (v := Stp.val ⟨3, 0, [], (p : Int), (q : Int), (r : Int)⟩ (.slice none 0 0)) (by simp [results, Tryz.results18, go_sem, Stp.val, t0, t1, t2, t3, t4, t5]) rfl ⟨_, rfl, rfl, ⟨⟨by simp, by simp⟩, ⟨by simp, by simp⟩, ⟨by simp only; omega, by simp only; omega⟩, ⟨by simp only; omega, by simp only; omega⟩, ⟨by simp only; omega, by simp only; omega⟩⟩, ?_⟩
        exact HSR.out.bl.trans (six_below _ _ _ _ _ _ _ _ _ (by omega))
end Go.Proofs.YtfffalfnjficaaaGreatDoor
