/-
  WALK: proof.resolve.
-/
import Derived.Test.YtfffalfnjficaaaDoorCyclic
import Derived.Laws.CopyOwn
import Derived.Deep.RegionLaw
namespace Go.Proofs.YtfffalfnjficaaaDoor
open Go.RowKit

/-- The value v is a step. -/
def IsStp (w : World) (v : Value) (s : Stp) : Prop :=
  ∃ lv, v = .agg #[.int .i64 s.kind, .int .i64 s.index, lv, .int .i64 s.p, .int .i64 s.q, .int .i64 s.var] ∧ Ints w lv s.lits ∧ I64 s.kind ∧ I64 s.index ∧ I64 s.p ∧ I64 s.q ∧ I64 s.var
theorem IsStp.keep {w w' : World} {v : Value} {s : Stp} (h : IsStp w v s) (hb : Below w.heap.size w w') : IsStp w' v s := by
  obtain ⟨lv, h1, h2, h3⟩ := h
  exact ⟨lv, h1, h2.keep hb, h3⟩

/-- What resolve returns. -/
def resE (cs : List (List Int)) (s : Stp) : Option (List Int) :=
  if 0 ≤ s.p ∧ 0 ≤ s.q then (cs[s.p.toNat]?).bind fun a => (cs[s.q.toNat]?).bind fun b => res a b s.var else none

theorem resE_some {cs : List (List Int)} {s : Stp} {P Q : List Int} {p q : Nat} (hp : s.p = (p : Int)) (hq : s.q = (q : Int)) (h1 : cs[p]? = some P) (h2 : cs[q]? = some Q) : resE cs s = res P Q s.var := by
  unfold resE
  rw [if_pos (by omega), hp, hq]
  simp [h1, h2]
theorem resE_none {cs : List (List Int)} {s : Stp} (h : s.p < 0 ∨ (cs.length : Int) ≤ s.p ∨ s.q < 0 ∨ (cs.length : Int) ≤ s.q) : resE cs s = none := by
  unfold resE
  split
  · rename_i hh
    cases e1 : cs[s.p.toNat]? with
    | none => rfl
    | some a =>
      cases e2 : cs[s.q.toNat]? with
      | none => rfl
      | some b =>
        have := (List.getElem?_eq_some_iff.1 e1).1
        have := (List.getElem?_eq_some_iff.1 e2).1
        omega
  · rfl

theorem addr_add (b o j : Nat) : (⟨b, o, none⟩ : Addr).add j = ⟨b, o + j, none⟩ := by
  unfold Addr.add
  split
  · rename_i h; subst h; rfl
  · rfl
theorem splice_pad {N : Nat} (A B : List Int) : splice ((pad 0 N A).map (Value.int .i64)) A.length (B.map (Value.int .i64)) = (pad 0 N (A ++ B)).map (Value.int .i64) := by
  have e1 : (pad 0 N A).take A.length = A := by simp [pad]
  have e2 : (pad 0 N A).drop (A.length + B.length) = List.replicate (N - (A ++ B).length) 0 := by
    rw [pad, List.drop_append, List.drop_eq_nil_of_le (by omega), List.nil_append, List.drop_replicate]
    congr 1
    simp; omega
  rw [splice, List.length_map, ← List.map_take, ← List.map_drop, e1, e2, pad, List.map_append, List.map_append, List.append_assoc]
/-- A slice's rest: where it has elements it begins at the place. -/
theorem cut_from (b o n c k : Nat) (l : Int) (hl : l = (k : Int)) (hk : k ≤ n) (hn : n ≤ c) :
    ∃ dp, (∀ w, (Instr.slice 49 (.slice (some ⟨b, o, none⟩) n c) (some (.int .i64 l)) none none).run Tryd.prog w = .ok (.slice dp (n - k) (c - k)) w) ∧ (k < n → dp = some ⟨b, o + k, none⟩) := by
  subst hl
  refine ⟨if c = k then some ⟨b, o, none⟩ else some ⟨b, o + k, none⟩, fun w => ?_, fun h => by rw [if_neg (by omega)]⟩
  rw [run_slice_l (P := Tryd.prog) (w := w) 49 _ n c (by kernel_rfl) .i64 (k : Int) (by omega) (by omega), show (sizeOf (Tryd.prog.elem 49)).run Tryd.prog w = .ok 1 w by kernel_rfl]
  simp only [Result.andThen, sliced, Int.toNat_natCast, Nat.mul_one, Option.map_some, addr_add]

theorem cut_to (b o n c k : Nat) (hk : k ≤ c) (w : World) : (Instr.slice 49 (.slice (some ⟨b, o, none⟩) n c) none (some (.int .i64 (k : Int))) none).run Tryd.prog w = .ok (.slice (some ⟨b, o, none⟩) k c) w := by
  rw [run_slice_h (P := Tryd.prog) (w := w) 49 _ n c (by kernel_rfl) .i64 (k : Int) (by omega) (by omega), show (sizeOf (Tryd.prog.elem 49)).run Tryd.prog w = .ok 1 w by kernel_rfl]
  simp only [Result.andThen, sliced, Int.toNat_natCast, Nat.zero_mul, Option.map_some, addr_add, Nat.add_zero, Nat.sub_zero, ite_self]

set_option maxRecDepth 100000 in
set_option maxHeartbeats 1000000 in
/-- resolve at two earlier clauses that contain the boolean. -/
theorem presolve_in (kd ix lv ev : Value) (cs : List (List Int)) (p q : Nat) (v : Int) (P Q T1 T2 T3 T4 : List Int) (w : World) (he : Mat w ev cs) (hp : cs[p]? = some P) (hq : cs[q]? = some Q) (hv0 : 0 ≤ v) (hv1 : v < 1024)
    (hi : Lib.idxOf P (v + 1) = (T1.length : Int)) (hj : Lib.idxOf Q (-(v + 1)) = (T3.length : Int)) (hPT : P = T1 ++ (v + 1) :: T2) (hQT : Q = T3 ++ -(v + 1) :: T4) (hlP : P.length ≤ 500000) (hlQ : Q.length ≤ 500000) :
    Calls Tryd.prog 61 #[.agg #[kd, ix, lv, .int .i64 (p : Int), .int .i64 (q : Int), .int .i64 v], ev] w (ClRet w (norm (T1 ++ (T2 ++ (T3 ++ T4))))) := by
  have hlP' : P.length = T1.length + T2.length + 1 := by rw [hPT]; simp; omega
  have hlQ' : Q.length = T3.length + T4.length + 1 := by rw [hQT]; simp; omega
  obtain ⟨A, c, vs, rfl, h1, h2, h3, hr, hin⟩ := he
  unfold maxLen at h2
  have HR := Lib.hid hr
  have HIN := Lib.hid hin
  have H3 := Lib.hid h3
  obtain ⟨b1, o1, A1, c1, rfl, hb1, hcP, hP⟩ := Mat.at_ hr h3 hin hp
  obtain ⟨b1', o1', A2, c2, hA', hb1', hcQ, hQ⟩ := Mat.at_ hr h3 hin hq
  injection hA' with hA'
  injection hA' with e1 e2
  subst e1 e2
  have HPI := Lib.hid hP
  have HQI := Lib.hid hQ
  obtain ⟨Ap, cp, hpv, hp1, hp2, hp3, hp4⟩ := hP
  injection hpv with e1 e2 e3
  subst e1 e3
  obtain ⟨bp, op, rfl, hbp, hcp⟩ := hp4 (by simp; omega)
  obtain ⟨Aq, cq, hqv, hq1, hq2, hq3, hq4⟩ := hQ
  injection hqv with e1 e2 e3
  subst e1 e3
  obtain ⟨bq, oq, rfl, hbq, hcq⟩ := hq4 (by simp; omega)
  have HCP := Lib.hid hcp
  have HCQ := Lib.hid hcq
  have HP3 := Lib.hid hp3
  have HQ3 := Lib.hid hq3
  have HI := Lib.hid hi
  have HJ := Lib.hid hj
  have hpl : p < cs.length := (List.getElem?_eq_some_iff.1 hp).1
  have hql : q < cs.length := (List.getElem?_eq_some_iff.1 hq).1
  unfold maxLen at hp2 hq2
  have HPT := Lib.hid hPT
  have HQT := Lib.hid hQT
  have HLP := Lib.hid hlP'
  have HLQ := Lib.hid hlQ'
  have a1 : T1.length + T2.length + 1 ≤ P.length := by omega
  have a2 : P.length ≤ T1.length + T2.length + 1 := by omega
  have a3 : T3.length + T4.length + 1 ≤ Q.length := by omega
  have a4 : Q.length ≤ T3.length + T4.length + 1 := by omega
  clear hr hin h3 hp hq hcp hcq hp3 hq3 hi hj hPT hQT hlP' hlQ'
  have d1 : decide ((p : Int) < 0) = false := by simp
  have d2 : decide ((cs.length : Int) ≤ (p : Int)) = false := by simp; omega
  have d3 : decide ((q : Int) < 0) = false := by simp
  have d4 : decide ((cs.length : Int) ≤ (q : Int)) = false := by simp; omega
  have d5 : decide (v < 0) = false := by simp; omega
  have d6 : decide ((1024 : Int) ≤ v) = false := by simp; omega
  go_enter Tryd.func61, Tryd.ntmps61
  go_wp2_with fail
  have hcP' : (w.alloc (.cells #[kd, ix, lv, .int .i64 (p : Int), .int .i64 (q : Int), .int .i64 v] 81)).cell? ⟨b1, o1 + p, none⟩ = some (.slice (some ⟨bp, op, none⟩) P.length c1) := (((Below.refl w.heap.size w).alloc (Nat.le_refl _) _).cell (p := ⟨b1, o1 + p, none⟩) hb1).trans hcP
  have hcQ' : (w.alloc (.cells #[kd, ix, lv, .int .i64 (p : Int), .int .i64 (q : Int), .int .i64 v] 81)).cell? ⟨b1, o1 + q, none⟩ = some (.slice (some ⟨bq, oq, none⟩) Q.length c2) := (((Below.refl w.heap.size w).alloc (Nat.le_refl _) _).cell (p := ⟨b1, o1 + q, none⟩) hb1).trans hcQ
  go_quiet (fail)
  have B0 : Blk ((w.alloc (.cells #[kd, ix, lv, .int .i64 (p : Int), .int .i64 (q : Int), .int .i64 v] 81)).drewN nq) w.heap.size 81 #[kd, ix, lv, .int .i64 (p : Int), .int .i64 (q : Int), .int .i64 v] := (Blk.new w _ _).drewN nq
  have hbW : Below w.heap.size w ((w.alloc (.cells #[kd, ix, lv, .int .i64 (p : Int), .int .i64 (q : Int), .int .i64 v] 81)).drewN nq) := bdrew ((Below.refl _ _).alloc (Nat.le_refl _) _) nq
  have hsW : ((w.alloc (.cells #[kd, ix, lv, .int .i64 (p : Int), .int .i64 (q : Int), .int .i64 v] 81)).drewN nq).heap.size = w.heap.size + 1 := by show (w.alloc _).heap.size = _; simp
  generalize (w.alloc (.cells #[kd, ix, lv, .int .i64 (p : Int), .int .i64 (q : Int), .int .i64 v] 81)).drewN nq = W at *
  have q5 := B0.cell 5
  simp only [List.getElem?_toArray, List.getElem?_cons_zero, List.getElem?_cons_succ] at q5
  have HBW := Lib.hid hbW
  have HSW := Lib.hid hsW
  clear hcP hcQ hcP' hcQ' B0 hbW hsW d1 d2 d3 d4 d5 d6
  have HXP : Hid (∀ k, k < P.length → W.cell? ⟨bp, op + k, none⟩ = some (.int .i64 (P.getD k 0))) := fun k hk => (HBW.out.cell (p := ⟨bp, op + k, none⟩) hbp).trans (HCP.out k _ (by simp [List.getElem?_map, List.getElem?_eq_getElem hk, List.getD]))
  have HXQ : Hid (∀ k, k < Q.length → W.cell? ⟨bq, oq + k, none⟩ = some (.int .i64 (Q.getD k 0))) := fun k hk => (HBW.out.cell (p := ⟨bq, oq + k, none⟩) hbq).trans (HCQ.out k _ (by simp [List.getElem?_map, List.getElem?_eq_getElem hk, List.getD]))
  go_wp2_with fail
  refine (Tryd.slices_Index_int bp op P.length c1 P (v + 1) W (Nat.le_refl _) (by omega) HXP.out).mono ?_
  rintro e w' ⟨rfl, rfl⟩
  rw [List.take_length, HI.out]
  simp only
  go_wp2_with fail
  refine (Tryd.slices_Index_int bq oq Q.length c2 Q (-(v + 1)) w' (Nat.le_refl _) (by omega) HXQ.out).mono ?_
  rintro e W ⟨rfl, rfl⟩
  rw [List.take_length, HJ.out]
  simp only
  have d1 : decide ((T1.length : Int) < 0) = false := by simp
  have d2 : decide ((T3.length : Int) < 0) = false := by simp
  obtain ⟨N, hN⟩ : ∃ N, N = P.length + Q.length - 2 := ⟨_, rfl⟩
  have hN1 : N ≤ T1.length + T2.length + T3.length + T4.length := by omega
  have hN2 : T1.length + T2.length + T3.length + T4.length ≤ N := by omega
  have mk : ∀ w, (Instr.makeSlice 49 (.int .i64 ((P.length : Int) + (Q.length : Int) - 2)) (.int .i64 ((P.length : Int) + (Q.length : Int) - 2))).run Tryd.prog w = .ok (.slice (some ⟨w.heap.size, 0, none⟩) N N) (w.alloc (.cells (rowI (List.replicate N 0)) 3)) := by
    intro w
    have h := mk_ints N (by omega) w
    rwa [show (N : Int) = (P.length : Int) + (Q.length : Int) - 2 by omega] at h
  have z0 : Blk (W.alloc (.cells (rowI (List.replicate N 0)) 3)) W.heap.size 3 ((List.replicate N (0 : Int)).map (Value.int .i64)).toArray := Blk.new W _ _
  have HZ0 := Lib.hid z0
  have hWg : w.heap.size + 1 = W.heap.size := HSW.out.symm
  have HWG := Lib.hid hWg
  have HT1 : Hid (∀ j u, (T1.map (Value.int .i64))[j]? = some u → w.cell? ⟨bp, op + j, none⟩ = some u) := fun j u hu => HCP.out j u (by rw [HPT.out, List.map_append, List.getElem?_append_left (List.getElem?_eq_some_iff.1 hu).1]; exact hu)
  have HT2 : Hid (∀ j u, (T2.map (Value.int .i64))[j]? = some u → w.cell? ⟨bp, op + (T1.length + 1) + j, none⟩ = some u) := fun j u hu => by
    rw [Nat.add_assoc]
    exact HCP.out (T1.length + 1 + j) u (by rw [HPT.out, List.map_append, List.getElem?_append_right (by simp; omega), List.map_cons, List.length_map, show T1.length + 1 + j - T1.length = j + 1 by omega, List.getElem?_cons_succ]; exact hu)
  have HT3 : Hid (∀ j u, (T3.map (Value.int .i64))[j]? = some u → w.cell? ⟨bq, oq + j, none⟩ = some u) := fun j u hu => HCQ.out j u (by rw [HQT.out, List.map_append, List.getElem?_append_left (List.getElem?_eq_some_iff.1 hu).1]; exact hu)
  have HT4 : Hid (∀ j u, (T4.map (Value.int .i64))[j]? = some u → w.cell? ⟨bq, oq + (T3.length + 1) + j, none⟩ = some u) := fun j u hu => by
    rw [Nat.add_assoc]
    exact HCQ.out (T3.length + 1 + j) u (by rw [HQT.out, List.map_append, List.getElem?_append_right (by simp; omega), List.map_cons, List.length_map, show T3.length + 1 + j - T3.length = j + 1 by omega, List.getElem?_cons_succ]; exact hu)
  have hbpW : bp < W.heap.size := by omega
  have hbqW : bq < W.heap.size := by omega
  have ONE : ∀ (T : List Int), ∀ u ∈ T.map (Value.int .i64), u.oneCell' = true := fun T u hu => by obtain ⟨x, _, rfl⟩ := List.mem_map.1 hu; rfl
  have HON := Lib.hid ONE
  have HK1 : Hid ((T1.map (Value.int .i64)).length = Nat.min T1.length N) := by rw [List.length_map]; exact (Nat.min_eq_left (by omega)).symm
  have HK2 : Hid (0 < (T1.map (Value.int .i64)).length → some (⟨W.heap.size, 0, none⟩ : Addr) = some ⟨W.heap.size, 0, none⟩ ∧ ∃ ad, some (⟨bp, op, none⟩ : Addr) = some ad ∧ ∀ j u, (T1.map (Value.int .i64))[j]? = some u → (W.alloc (.cells (rowI (List.replicate N 0)) 3)).cell? (ad.add j) = some u) :=
    fun _ => ⟨rfl, ⟨bp, op, none⟩, rfl, fun j u hu => by rw [addr_add]; exact (((Below.refl _ _).alloc (Nat.le_refl _) _).cell (p := ⟨bp, op + j, none⟩) hbpW).trans ((HBW.out.cell (p := ⟨bp, op + j, none⟩) hbp).trans (HT1.out j u hu))⟩
  have HK3 : Hid (0 + (T1.map (Value.int .i64)).length ≤ ((List.replicate N (0 : Int)).map (Value.int .i64)).length) := by refine Lib.hid ?_; simp; omega
  have HK5 : Hid (Below W.heap.size W (W.alloc (.cells (rowI (List.replicate N 0)) 3))) := (Below.refl _ _).alloc (Nat.le_refl _) _
  clear z0 hWg hN ONE
  go_wp2_with (refine wpList_copy_splice rfl (.tmp 76) (.tmp 79) 49 49 rfl 3 Tryd.underlying49 (by kernel_rfl) (some ⟨W.heap.size, 0, none⟩) (some ⟨bp, op, none⟩) N N T1.length c1 rfl rfl W.heap.size 0 ((List.replicate N (0 : Int)).map (Value.int .i64)) 3 HZ0.out (T1.map (Value.int .i64)) HK1.out HK2.out HK3.out (HON.out T1) W.heap.size W HK5.out (Nat.le_refl _) ?_; intro w4 hg4 hb4; have HB4 := Lib.hid hb4; clear hb4)
  have G4 : Hid (Blk w4 W.heap.size 3 ((pad 0 N T1).map (Value.int .i64)).toArray) := by
    have h := hg4.out
    rw [show (List.replicate N (0 : Int)) = pad 0 N [] from pad_nil.symm] at h
    have e := splice_pad (N := N) [] T1
    rw [List.length_nil] at e
    rw [e, List.nil_append] at h
    exact h
  clear hg4
  clear HK1 HK2 HK3 HK5 d1 d2 mk
  go_wp2_with fail
  obtain ⟨dp5, cd5, hd5⟩ := cut_from W.heap.size 0 N N (T1.length) ((T1.length : Int)) (by omega) (by omega) (Nat.le_refl _)
  obtain ⟨sp5, cs5, hs5⟩ := cut_from bp op P.length c1 (T1.length + 1) ((T1.length : Int) + 1) (by omega) (by omega) hp1
  have HK1 : Hid ((T2.map (Value.int .i64)).length = Nat.min (P.length - (T1.length + 1)) (N - (T1.length))) := by rw [List.length_map]; exact ((Nat.min_eq_left (by omega)).trans (by omega)).symm
  have HK2 : Hid (0 < (T2.map (Value.int .i64)).length → dp5 = some ⟨W.heap.size, (T1).length, none⟩ ∧ ∃ ad, sp5 = some ad ∧ ∀ j u, (T2.map (Value.int .i64))[j]? = some u → w4.drew.cell? (ad.add j) = some u) := by
    intro h0
    rw [List.length_map] at h0
    refine ⟨by rw [hd5 (by omega), Nat.zero_add]; try simp only [List.length_append], ⟨bp, op + (T1.length + 1), none⟩, hs5 (by omega), fun j u hu => ?_⟩
    rw [addr_add]
    exact (HB4.out.cell (p := ⟨bp, op + (T1.length + 1) + j, none⟩) hbpW).trans ((HBW.out.cell (p := ⟨bp, op + (T1.length + 1) + j, none⟩) hbp).trans (HT2.out j u hu))
  have HK3 : Hid ((T1).length + (T2.map (Value.int .i64)).length ≤ ((pad 0 N (T1)).map (Value.int .i64)).length) := by
    refine Lib.hid ?_
    rw [List.length_map, List.length_map, pad_len (by (try simp only [List.length_append]); omega)]; (try simp only [List.length_append]); omega
  have ya : IntKind.i64.wrap ((T1.length : Int) + 1) = (T1.length : Int) + 1 := IntWalk.i64_in _ (by omega)
  have yb : IntKind.i64.wrap ((T1.length : Int) + (T2.length : Int)) = (T1.length : Int) + (T2.length : Int) := IntWalk.i64_in _ (by omega)
  go_region_law (refine step_copy_splice rfl (.tmp 84) (.tmp 88) 49 49 rfl 3 Tryd.underlying49 (by kernel_rfl) dp5 sp5 (N - (T1.length)) (N - (T1.length)) (P.length - (T1.length + 1)) (c1 - (T1.length + 1)) (by simp [Act.eval, Act.put]) (by simp [Act.eval, Act.put]) W.heap.size (T1).length ((pad 0 N (T1)).map (Value.int .i64)) 3 G4.out (T2.map (Value.int .i64)) HK1.out HK2.out HK3.out (HON.out T2) W.heap.size W HB4.out.drew (Nat.le_refl _) ?_; intro w5 hg hb)
  have HB5 := Lib.hid hb
  have G5 : Hid (Blk w5 W.heap.size 3 ((pad 0 N (T1 ++ T2)).map (Value.int .i64)).toArray) := by
    have h := hg.out
    rw [splice_pad (N := N) (T1) T2] at h
    exact h
  clear hg hb HK1 HK2 HK3 cd5 hd5 cs5 hs5 ya yb
  go_wp2_with fail
  have ct6 := cut_to bq oq Q.length c2 T3.length (by omega)
  obtain ⟨dp6, cd6, hd6⟩ := cut_from W.heap.size 0 N N (T1.length + T2.length) ((T1.length : Int) + (T2.length : Int)) (by omega) (by omega) (Nat.le_refl _)
  have HK1 : Hid ((T3.map (Value.int .i64)).length = Nat.min T3.length (N - (T1.length + T2.length))) := by rw [List.length_map]; exact ((Nat.min_eq_left (by omega)).trans (by omega)).symm
  have HK2 : Hid (0 < (T3.map (Value.int .i64)).length → dp6 = some ⟨W.heap.size, (T1 ++ T2).length, none⟩ ∧ ∃ ad, some (⟨bq, oq, none⟩ : Addr) = some ad ∧ ∀ j u, (T3.map (Value.int .i64))[j]? = some u → w5.drew.cell? (ad.add j) = some u) := by
    intro h0
    rw [List.length_map] at h0
    refine ⟨by rw [hd6 (by omega), Nat.zero_add]; try simp only [List.length_append], ⟨bq, oq, none⟩, rfl, fun j u hu => ?_⟩
    rw [addr_add]
    exact (HB5.out.cell (p := ⟨bq, oq + j, none⟩) hbqW).trans ((HBW.out.cell (p := ⟨bq, oq + j, none⟩) hbq).trans (HT3.out j u hu))
  have HK3 : Hid ((T1 ++ T2).length + (T3.map (Value.int .i64)).length ≤ ((pad 0 N (T1 ++ T2)).map (Value.int .i64)).length) := by
    refine Lib.hid ?_
    rw [List.length_map, List.length_map, pad_len (by (try simp only [List.length_append]); omega)]; (try simp only [List.length_append]); omega
  have yb : IntKind.i64.wrap ((T1.length : Int) + (T2.length : Int) + (T3.length : Int)) = (T1.length : Int) + (T2.length : Int) + (T3.length : Int) := IntWalk.i64_in _ (by omega)
  go_region_law (refine step_copy_splice rfl (.tmp 94) (.tmp 97) 49 49 rfl 3 Tryd.underlying49 (by kernel_rfl) dp6 (some ⟨bq, oq, none⟩) (N - (T1.length + T2.length)) (N - (T1.length + T2.length)) T3.length c2 (by simp [Act.eval, Act.put]) (by simp [Act.eval, Act.put]) W.heap.size (T1 ++ T2).length ((pad 0 N (T1 ++ T2)).map (Value.int .i64)) 3 G5.out (T3.map (Value.int .i64)) HK1.out HK2.out HK3.out (HON.out T3) W.heap.size W HB5.out.drew (Nat.le_refl _) ?_; intro w6 hg hb)
  have HB6 := Lib.hid hb
  have G6 : Hid (Blk w6 W.heap.size 3 ((pad 0 N (T1 ++ T2 ++ T3)).map (Value.int .i64)).toArray) := by
    have h := hg.out
    rw [splice_pad (N := N) (T1 ++ T2) T3] at h
    exact h
  clear hg hb HK1 HK2 HK3 cd6 hd6  yb
  go_wp2_with fail
  obtain ⟨dp7, cd7, hd7⟩ := cut_from W.heap.size 0 N N (T1.length + T2.length + T3.length) ((T1.length : Int) + (T2.length : Int) + (T3.length : Int)) (by omega) (by omega) (Nat.le_refl _)
  obtain ⟨sp7, cs7, hs7⟩ := cut_from bq oq Q.length c2 (T3.length + 1) ((T3.length : Int) + 1) (by omega) (by omega) hq1
  have HK1 : Hid ((T4.map (Value.int .i64)).length = Nat.min (Q.length - (T3.length + 1)) (N - (T1.length + T2.length + T3.length))) := by rw [List.length_map]; exact ((Nat.min_eq_left (by omega)).trans (by omega)).symm
  have HK2 : Hid (0 < (T4.map (Value.int .i64)).length → dp7 = some ⟨W.heap.size, (T1 ++ T2 ++ T3).length, none⟩ ∧ ∃ ad, sp7 = some ad ∧ ∀ j u, (T4.map (Value.int .i64))[j]? = some u → w6.drew.cell? (ad.add j) = some u) := by
    intro h0
    rw [List.length_map] at h0
    refine ⟨by rw [hd7 (by omega), Nat.zero_add]; try simp only [List.length_append], ⟨bq, oq + (T3.length + 1), none⟩, hs7 (by omega), fun j u hu => ?_⟩
    rw [addr_add]
    exact (HB6.out.cell (p := ⟨bq, oq + (T3.length + 1) + j, none⟩) hbqW).trans ((HBW.out.cell (p := ⟨bq, oq + (T3.length + 1) + j, none⟩) hbq).trans (HT4.out j u hu))
  have HK3 : Hid ((T1 ++ T2 ++ T3).length + (T4.map (Value.int .i64)).length ≤ ((pad 0 N (T1 ++ T2 ++ T3)).map (Value.int .i64)).length) := by
    refine Lib.hid ?_
    rw [List.length_map, List.length_map, pad_len (by (try simp only [List.length_append]); omega)]; (try simp only [List.length_append]); omega
  have ya : IntKind.i64.wrap ((T3.length : Int) + 1) = (T3.length : Int) + 1 := IntWalk.i64_in _ (by omega)
  go_region_law (refine step_copy_splice rfl (.tmp 102) (.tmp 106) 49 49 rfl 3 Tryd.underlying49 (by kernel_rfl) dp7 sp7 (N - (T1.length + T2.length + T3.length)) (N - (T1.length + T2.length + T3.length)) (Q.length - (T3.length + 1)) (c2 - (T3.length + 1)) (by simp [Act.eval, Act.put]) (by simp [Act.eval, Act.put]) W.heap.size (T1 ++ T2 ++ T3).length ((pad 0 N (T1 ++ T2 ++ T3)).map (Value.int .i64)) 3 G6.out (T4.map (Value.int .i64)) HK1.out HK2.out HK3.out (HON.out T4) W.heap.size W HB6.out.drew (Nat.le_refl _) ?_; intro w7 hg hb)
  have HB7 := Lib.hid hb
  have G7 : Hid (Blk w7 W.heap.size 3 ((pad 0 N (T1 ++ T2 ++ T3 ++ T4)).map (Value.int .i64)).toArray) := by
    have h := hg.out
    rw [splice_pad (N := N) (T1 ++ T2 ++ T3) T4] at h
    exact h
  clear hg hb HK1 HK2 HK3 cd7 hd7 cs7 hs7 ya 
  go_wp2_with fail
  have hfull : pad 0 N (T1 ++ T2 ++ T3 ++ T4) = T1 ++ (T2 ++ (T3 ++ T4)) := by
    rw [pad_full (by simp only [List.length_append]; omega)]; simp only [List.append_assoc]
  have HI7 : Hid (Ints w7 (.slice (some ⟨W.heap.size, 0, none⟩) N N) (T1 ++ (T2 ++ (T3 ++ T4)))) := by
    have h := G7.out
    rw [hfull] at h
    have h2 := h.rd (fun x hx => ?_) (by simp only [List.length_append]; unfold maxLen; omega)
    · rwa [show (T1 ++ (T2 ++ (T3 ++ T4))).length = N by simp only [List.length_append]; omega] at h2
    · simp only [List.mem_append] at hx
      rcases hx with hx | hx | hx | hx
      · exact HP3.out x (by rw [HPT.out]; simp [hx])
      · exact HP3.out x (by rw [HPT.out]; simp [hx])
      · exact HQ3.out x (by rw [HQT.out]; simp [hx])
      · exact HQ3.out x (by rw [HQT.out]; simp [hx])
  clear hfull
  refine (fnormal_any _ (T1 ++ (T2 ++ (T3 ++ T4))) _ HI7.out (by simp only [List.length_append]; omega)).mono ?_
  intro e w8 hnr
  have hcl := NormRet.cl (w := w) hnr rfl (HBW.out.trans (HB7.out.mono (by have := HWG.out; omega)))
  clear hnr
  obtain ⟨v, rfl, h5, h6⟩ := hcl
  have H5 := Lib.hid h5
  have H6 := Lib.hid h6
  clear h5 h6
  go_wp2_with fail
  go_ret2
  exact ⟨v, rfl, H5.out, H6.out⟩

theorem idxFrom_in {x : Int} (zs : List Int) (k : Nat) (h : x ∈ zs) : ∃ T1 T2, zs = T1 ++ x :: T2 ∧ Lib.idxFrom zs x k = ((k + T1.length : Nat) : Int) := by
  induction zs generalizing k with
  | nil => simp at h
  | cons z r ih =>
    by_cases e : z = x
    · exact ⟨[], r, by simp [e], by simp [Lib.idxFrom, e]⟩
    · obtain ⟨T1, T2, h1, h2⟩ := ih (k + 1) (by
        rcases List.mem_cons.1 h with h | h
        · exact absurd h.symm e
        · exact h)
      refine ⟨z :: T1, T2, by rw [h1]; rfl, ?_⟩
      rw [Lib.idxFrom, if_neg (by simpa using e), h2]
      simp; omega
theorem idxFrom_out {x : Int} (zs : List Int) (k : Nat) (h : x ∉ zs) : Lib.idxFrom zs x k = -1 := by
  induction zs generalizing k with
  | nil => rfl
  | cons z r ih =>
    simp only [List.mem_cons, not_or] at h
    rw [Lib.idxFrom, if_neg (by simpa using fun e => h.1 e.symm), ih _ h.2]

def ArgsS (kd ix lv : Value) (p q v : Int) : Value := .agg #[kd, ix, lv, .int .i64 p, .int .i64 q, .int .i64 v]

set_option maxRecDepth 100000 in
set_option maxHeartbeats 1000000 in
theorem presolve_no1 (kd ix lv ev : Value) (cs : List (List Int)) (p q v : Int) (w : World) (he : Mat w ev cs) (h : p < 0 ∨ (cs.length : Int) ≤ p ∨ q < 0 ∨ (cs.length : Int) ≤ q) :
    Calls Tryd.prog 61 #[.agg #[kd, ix, lv, .int .i64 p, .int .i64 q, .int .i64 v], ev] w (ClRet w none) := by
  obtain ⟨A, c, vs, rfl, h1, h2, -, -, -⟩ := he
  unfold maxLen at h2
  by_cases a1 : p < 0
  · have d1 : decide (p < 0) = true := by simpa using a1
    clear a1 h
    go_enter Tryd.func61, Tryd.ntmps61
    go_wp2_with fail
    go_ret2
    exact ClRet.no rfl (by go_grown)
  · have d1 : decide (p < 0) = false := by simpa using a1
    by_cases a2 : (cs.length : Int) ≤ p
    · have d2 : decide ((cs.length : Int) ≤ p) = true := by simpa using a2
      clear a1 a2 h
      go_enter Tryd.func61, Tryd.ntmps61
      go_wp2_with fail
      go_ret2
      exact ClRet.no rfl (by go_grown)
    · have d2 : decide ((cs.length : Int) ≤ p) = false := by simpa using a2
      by_cases a3 : q < 0
      · have d3 : decide (q < 0) = true := by simpa using a3
        clear a1 a2 a3 h
        go_enter Tryd.func61, Tryd.ntmps61
        go_wp2_with fail
        go_ret2
        exact ClRet.no rfl (by go_grown)
      · have d3 : decide (q < 0) = false := by simpa using a3
        have a4 : (cs.length : Int) ≤ q := by omega
        have d4 : decide ((cs.length : Int) ≤ q) = true := by simpa using a4
        clear a1 a2 a3 a4 h
        go_enter Tryd.func61, Tryd.ntmps61
        go_wp2_with fail
        go_ret2
        exact ClRet.no rfl (by go_grown)

set_option maxRecDepth 100000 in
set_option maxHeartbeats 1000000 in
theorem presolve_no2 (kd ix lv ev : Value) (cs : List (List Int)) (p q : Nat) (v : Int) (w : World) (he : Mat w ev cs) (hp : p < cs.length) (hq : q < cs.length) (h : v < 0 ∨ 1024 ≤ v) :
    Calls Tryd.prog 61 #[.agg #[kd, ix, lv, .int .i64 (p : Int), .int .i64 (q : Int), .int .i64 v], ev] w (ClRet w none) := by
  obtain ⟨A, c, vs, rfl, h1, h2, -, -, -⟩ := he
  unfold maxLen at h2
  have d1 : decide ((p : Int) < 0) = false := by simp
  have d2 : decide ((cs.length : Int) ≤ (p : Int)) = false := by simp; omega
  have d3 : decide ((q : Int) < 0) = false := by simp
  have d4 : decide ((cs.length : Int) ≤ (q : Int)) = false := by simp; omega
  by_cases a1 : v < 0
  · have d5 : decide (v < 0) = true := by simpa using a1
    clear a1 h
    go_enter Tryd.func61, Tryd.ntmps61
    go_wp2_with fail
    go_ret2
    exact ClRet.no rfl (by go_grown)
  · have d5 : decide (v < 0) = false := by simpa using a1
    have d6 : decide ((1024 : Int) ≤ v) = true := by simp; omega
    clear a1 h
    go_enter Tryd.func61, Tryd.ntmps61
    go_wp2_with fail
    go_ret2
    exact ClRet.no rfl (by go_grown)

theorem index_ints (v : Value) (zs : List Int) (x : Int) (w : World) (hv : Ints w v zs) : Calls Tryd.prog 84 #[v, .int .i64 x] w fun e w' => e = .returned (.int .i64 (Lib.idxOf zs x)) ∧ w' = w := by
  obtain ⟨A, c, rfl, h1, h2, h3, hr⟩ := hv
  unfold maxLen at h2
  rcases zs with _ | ⟨z, r⟩
  · exact Tryd.slices_Index_int_empty A c x w
  · obtain ⟨b, o, rfl, hb, hc⟩ := hr (by simp)
    have h := Tryd.slices_Index_int b o (z :: r).length c (z :: r) x w (Nat.le_refl _) (by omega) (fun j hj => hc j _ (by simp only [List.getElem?_map, List.getElem?_eq_getElem hj, List.getD, Option.map_some, Option.getD_some]))
    rwa [List.take_length] at h

set_option maxRecDepth 100000 in
set_option maxHeartbeats 1000000 in
theorem presolve_no3 (kd ix lv ev : Value) (cs : List (List Int)) (p q : Nat) (v : Int) (P Q : List Int) (w : World) (he : Mat w ev cs) (hp : cs[p]? = some P) (hq : cs[q]? = some Q) (hv0 : 0 ≤ v) (hv1 : v < 1024)
    (h : Lib.idxOf P (v + 1) < 0 ∨ Lib.idxOf Q (-(v + 1)) < 0) :
    Calls Tryd.prog 61 #[.agg #[kd, ix, lv, .int .i64 (p : Int), .int .i64 (q : Int), .int .i64 v], ev] w (ClRet w none) := by
  obtain ⟨A, c, vs, rfl, h1, h2, h3, hr, hin⟩ := he
  unfold maxLen at h2
  obtain ⟨b1, o1, A1, c1, rfl, hb1, hcP, hP⟩ := Mat.at_ hr h3 hin hp
  obtain ⟨b1', o1', A2, c2, hA', hb1', hcQ, hQ⟩ := Mat.at_ hr h3 hin hq
  injection hA' with hA'
  injection hA' with e1 e2
  subst e1 e2
  have HPI := Lib.hid hP
  have HQI := Lib.hid hQ
  have hpl : p < cs.length := (List.getElem?_eq_some_iff.1 hp).1
  have hql : q < cs.length := (List.getElem?_eq_some_iff.1 hq).1
  clear hr hin h3 hp hq hP hQ
  have d1 : decide ((p : Int) < 0) = false := by simp
  have d2 : decide ((cs.length : Int) ≤ (p : Int)) = false := by simp; omega
  have d3 : decide ((q : Int) < 0) = false := by simp
  have d4 : decide ((cs.length : Int) ≤ (q : Int)) = false := by simp; omega
  have d5 : decide (v < 0) = false := by simp; omega
  have d6 : decide ((1024 : Int) ≤ v) = false := by simp; omega
  go_enter Tryd.func61, Tryd.ntmps61
  go_wp2_with fail
  have hcP' : (w.alloc (.cells #[kd, ix, lv, .int .i64 (p : Int), .int .i64 (q : Int), .int .i64 v] 81)).cell? ⟨b1, o1 + p, none⟩ = some (.slice A1 P.length c1) := (((Below.refl w.heap.size w).alloc (Nat.le_refl _) _).cell (p := ⟨b1, o1 + p, none⟩) hb1).trans hcP
  have hcQ' : (w.alloc (.cells #[kd, ix, lv, .int .i64 (p : Int), .int .i64 (q : Int), .int .i64 v] 81)).cell? ⟨b1, o1 + q, none⟩ = some (.slice A2 Q.length c2) := (((Below.refl w.heap.size w).alloc (Nat.le_refl _) _).cell (p := ⟨b1, o1 + q, none⟩) hb1).trans hcQ
  go_quiet (fail)
  have B0 : Blk ((w.alloc (.cells #[kd, ix, lv, .int .i64 (p : Int), .int .i64 (q : Int), .int .i64 v] 81)).drewN nq) w.heap.size 81 #[kd, ix, lv, .int .i64 (p : Int), .int .i64 (q : Int), .int .i64 v] := (Blk.new w _ _).drewN nq
  have hbW : Below w.heap.size w ((w.alloc (.cells #[kd, ix, lv, .int .i64 (p : Int), .int .i64 (q : Int), .int .i64 v] 81)).drewN nq) := bdrew ((Below.refl _ _).alloc (Nat.le_refl _) _) nq
  generalize (w.alloc (.cells #[kd, ix, lv, .int .i64 (p : Int), .int .i64 (q : Int), .int .i64 v] 81)).drewN nq = W at *
  have q5 := B0.cell 5
  simp only [List.getElem?_toArray, List.getElem?_cons_zero, List.getElem?_cons_succ] at q5
  have HBW := Lib.hid hbW
  clear hcP hcQ hcP' hcQ' B0 hbW d1 d2 d3 d4 d5 d6
  go_wp2_with fail
  refine (index_ints _ P (v + 1) W (HPI.out.keep HBW.out)).mono ?_
  rintro e w' ⟨rfl, rfl⟩
  simp only
  go_wp2_with fail
  refine (index_ints _ Q (-(v + 1)) w' (HQI.out.keep HBW.out)).mono ?_
  rintro e W ⟨rfl, rfl⟩
  simp only
  generalize Lib.idxOf P (v + 1) = i at *
  generalize Lib.idxOf Q (-(v + 1)) = j at *
  by_cases a1 : i < 0
  · have d1 : decide (i < 0) = true := by simpa using a1
    clear a1 h
    go_wp2_with fail
    go_ret2
    exact ClRet.no rfl HBW.out
  · have d1 : decide (i < 0) = false := by simpa using a1
    have d2 : decide (j < 0) = true := by simp; omega
    clear a1 h
    go_wp2_with fail
    go_ret2
    exact ClRet.no rfl HBW.out

theorem presolve_any (sv ev : Value) (s : Stp) (cs : List (List Int)) (w : World) (hs : IsStp w sv s) (he : Mat w ev cs) (hup : ∀ c ∈ cs, Up c) (hl : ∀ c ∈ cs, c.length ≤ 500000) :
    Calls Tryd.prog 61 #[sv, ev] w (ClRet w (resE cs s)) := by
  obtain ⟨lv, rfl, -, -, -, ⟨-, -⟩, ⟨-, -⟩, ⟨-, -⟩⟩ := hs
  obtain ⟨kd, ix, lits, p, q, v⟩ := s
  by_cases h1 : p < 0 ∨ (cs.length : Int) ≤ p ∨ q < 0 ∨ (cs.length : Int) ≤ q
  · rw [resE_none h1]
    exact presolve_no1 _ _ _ _ cs p q v w he h1
  · obtain ⟨p', rfl⟩ : ∃ p' : Nat, p = p' := ⟨p.toNat, by omega⟩
    obtain ⟨q', rfl⟩ : ∃ q' : Nat, q = q' := ⟨q.toNat, by omega⟩
    obtain ⟨P, hP⟩ : ∃ x, cs[p']? = some x := ⟨_, List.getElem?_eq_getElem (by omega)⟩
    obtain ⟨Q, hQ⟩ : ∃ x, cs[q']? = some x := ⟨_, List.getElem?_eq_getElem (by omega)⟩
    rw [resE_some (p := p') (q := q') rfl rfl hP hQ]
    have uP := up_nodup (hup P (List.mem_of_getElem? hP))
    have uQ := up_nodup (hup Q (List.mem_of_getElem? hQ))
    by_cases h2 : v < 0 ∨ 1024 ≤ v
    · have : res P Q v = none := by unfold res; rw [if_neg (by omega)]
      show Calls _ _ _ _ (ClRet w (res P Q v))
      rw [this]
      exact presolve_no2 _ _ _ _ cs p' q' v w he (List.getElem?_eq_some_iff.1 hP).1 (List.getElem?_eq_some_iff.1 hQ).1 h2
    · show Calls _ _ _ _ (ClRet w (res P Q v))
      by_cases h3 : v + 1 ∈ P
      · by_cases h4 : -(v + 1) ∈ Q
        · obtain ⟨T1, T2, e1, e2⟩ := idxFrom_in P 0 h3
          obtain ⟨T3, T4, e3, e4⟩ := idxFrom_in Q 0 h4
          have : res P Q v = norm (T1 ++ (T2 ++ (T3 ++ T4))) := by
            unfold res
            rw [if_pos ⟨by omega, by omega, h3, h4⟩, filter_ne uP (i := T1.length) (by rw [e1]; simp), filter_ne uQ (i := T3.length) (by rw [e3]; simp)]
            have a1 : P.take T1.length = T1 := by rw [e1]; simp
            have a2 : P.drop (T1.length + 1) = T2 := by rw [e1]; simp
            have a3 : Q.take T3.length = T3 := by rw [e3]; simp
            have a4 : Q.drop (T3.length + 1) = T4 := by rw [e3]; simp
            rw [a1, a2, a3, a4, List.append_assoc]
          rw [this]
          exact presolve_in _ _ _ _ cs p' q' v P Q T1 T2 T3 T4 w he hP hQ (by omega) (by omega) (by rw [Lib.idxOf, e2, Nat.zero_add]) (by rw [Lib.idxOf, e4, Nat.zero_add]) e1 e3 (hl P (List.mem_of_getElem? hP)) (hl Q (List.mem_of_getElem? hQ))
        · have : res P Q v = none := by unfold res; rw [if_neg (fun h => h4 h.2.2.2)]
          rw [this]
          exact presolve_no3 _ _ _ _ cs p' q' v P Q w he hP hQ (by omega) (by omega) (.inr (by rw [Lib.idxOf, idxFrom_out Q 0 h4]; omega))
      · have : res P Q v = none := by unfold res; rw [if_neg (fun h => h3 h.2.2.1)]
        rw [this]
        exact presolve_no3 _ _ _ _ cs p' q' v P Q w he hP hQ (by omega) (by omega) (.inl (by rw [Lib.idxOf, idxFrom_out P 0 h3]; omega))
end Go.Proofs.YtfffalfnjficaaaDoor
