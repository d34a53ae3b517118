/-
  WALK: report.summary.
-/
import Derived.Test.YtccpelfnkjckiaaDoorRepSt
import Derived.Deep.RegionLaw
import Derived.StillTailTactics
import Derived.Deep.RegionHeld3
namespace Go.Proofs.YtccpelfnkjckiaaDoor
open Go.RowKit

/-- A list of numbers is cloned. -/
theorem clone_any (v : Value) (xs : List Int) (w : World) (h : Ints w v xs) (hl : xs.length ≤ 17000000000000) :
    Calls Tryd.prog 62 #[v] w fun e w' => ∃ v', e = .returned v' ∧ Own w' w.heap.size v' xs ∧ Below w.heap.size w w' := by
  obtain ⟨A, c, rfl, h1, h2, h3, h4⟩ := h
  cases A with
  | none =>
    have hx : xs = [] := by
      rcases Nat.eq_zero_or_pos xs.length with h0 | h0
      · exact List.eq_nil_of_length_eq_zero h0
      · obtain ⟨b, off, hA, _⟩ := h4 (by simpa using h0); cases hA
    subst hx
    refine (Tryd.slices_Clone_int_nil 0 c w).mono ?_
    rintro e w' ⟨rfl, rfl⟩
    exact ⟨_, rfl, ⟨World.ownsRow_nil _ _ _ _, by simp⟩, Below.refl _ _⟩
  | some a =>
    by_cases h0 : xs.length = 0
    · have hx : xs = [] := List.eq_nil_of_length_eq_zero h0
      subst hx
      refine (Tryd.slices_Clone_int_zero a c w).mono ?_
      rintro e w' ⟨v', rfl, ho, -, hb⟩
      exact ⟨_, rfl, ⟨ho, by simp⟩, hb⟩
    · obtain ⟨b, off, hA, hlt, hc⟩ := h4 (by simp; omega)
      injection hA with hA
      subst hA
      refine (Tryd.slices_Clone_int b off xs.length c xs w (Nat.le_refl _) (by omega) (fun j hj => ?_)).mono ?_
      · exact hc j _ (by rw [List.getElem?_map, List.getElem?_eq_getElem hj]; simp [List.getD_eq_getElem?_getD, hj])
      · rintro e w' ⟨v', rfl, ho, -, hb⟩
        rw [List.take_length] at ho
        exact ⟨_, rfl, ⟨ho, h3⟩, hb⟩

/-- Six cells of a block are stored. -/
def set6 (w : World) (g : Nat) (v0 v1 v2 v3 v4 v5 : Value) : World := (((((w.setCell ⟨g, 0, none⟩ v0).setCell ⟨g, 1, none⟩ v1).setCell ⟨g, 2, none⟩ v2).setCell ⟨g, 3, none⟩ v3).setCell ⟨g, 4, none⟩ v4).setCell ⟨g, 5, none⟩ v5
theorem Below.set6 {a w : World} (h : Below a.heap.size a w) (v0 v1 v2 v3 v4 v5 : Value) : Below a.heap.size a ((((((w.setCell ⟨a.heap.size, 0, none⟩ v0).setCell ⟨a.heap.size, 1, none⟩ v1).setCell ⟨a.heap.size, 2, none⟩ v2).setCell ⟨a.heap.size, 3, none⟩ v3).setCell ⟨a.heap.size, 4, none⟩ v4).setCell ⟨a.heap.size, 5, none⟩ v5) :=
  (((((h.setCell (Nat.le_refl _) _).setCell (Nat.le_refl _) _).setCell (Nat.le_refl _) _).setCell (Nat.le_refl _) _).setCell (Nat.le_refl _) _).setCell (Nat.le_refl _) _
theorem blk_set6 {w : World} {g : Nat} {t : TypeId} {u0 u1 u2 u3 u4 u5 : Value} (h : Blk w g t #[u0, u1, u2, u3, u4, u5]) (v0 v1 v2 v3 v4 v5 : Value) : Blk (set6 w g v0 v1 v2 v3 v4 v5) g t #[v0, v1, v2, v3, v4, v5] :=
  (((((h.set_ 0 v0).set_ 1 v1).set_ 2 v2).set_ 3 v3).set_ 4 v4).set_ 5 v5
theorem grown_set6 (w : World) (g : Nat) (v0 v1 v2 v3 v4 v5 : Value) : w.grownBy (set6 w g v0 v1 v2 v3 v4 v5) (some g) :=
  grownBy_trans (grownBy_trans (grownBy_trans (grownBy_trans (grownBy_trans (grownBy_set0 _ _ _ _) (grownBy_set0 _ _ _ _)) (grownBy_set0 _ _ _ _)) (grownBy_set0 _ _ _ _)) (grownBy_set0 _ _ _ _)) (grownBy_set0 _ _ _ _)
theorem clone1 (W : World) (v : Value) (xs : List Int) (h : Ints W v xs) (hl : xs.length ≤ 17000000000000) :
    Calls Tryd.prog 62 #[v] W.drew fun e w' => ∃ A c, e = .returned (.slice A xs.length c) ∧ Own w' W.heap.size (.slice A xs.length c) xs ∧ Below W.heap.size W w' := by
  refine (clone_any v xs W.drew (h.keep (Below.refl _ _).drew) hl).mono ?_
  rintro e w' ⟨v', rfl, ho, hb⟩
  obtain ⟨A, c, rfl, -, -, -⟩ := owns_rd ho.1
  exact ⟨A, c, rfl, ho, Below.trans (Below.refl _ _).drew hb⟩
theorem clone2 (W : World) (v : Value) (xs : List Int) (h : Ints W v xs) (hl : xs.length ≤ 17000000000000) :
    Calls Tryd.prog 62 #[v] (W.alloc (.cells #[.int .i64 0, .slice none 0 0, .slice none 0 0, .int .i64 0, .int .i64 0, .int .i64 0] 61)).drew fun e w' => ∃ A c, e = .returned (.slice A xs.length c) ∧ Own w' (W.heap.size + 1) (.slice A xs.length c) xs ∧ Below W.heap.size W w' ∧ Blk w' W.heap.size 61 #[.int .i64 0, .slice none 0 0, .slice none 0 0, .int .i64 0, .int .i64 0, .int .i64 0] := by
  have h1 : Below W.heap.size W (W.alloc (.cells #[.int .i64 0, .slice none 0 0, .slice none 0 0, .int .i64 0, .int .i64 0, .int .i64 0] 61)).drew := (Below.al (Below.refl _ _) _).drew
  have h2 : (W.alloc (.cells #[.int .i64 0, .slice none 0 0, .slice none 0 0, .int .i64 0, .int .i64 0, .int .i64 0] 61)).drew.heap.size = W.heap.size + 1 := by simp
  have h3 : Blk (W.alloc (.cells #[.int .i64 0, .slice none 0 0, .slice none 0 0, .int .i64 0, .int .i64 0, .int .i64 0] 61)).drew W.heap.size 61 #[.int .i64 0, .slice none 0 0, .slice none 0 0, .int .i64 0, .int .i64 0, .int .i64 0] := (Blk.new W _ _).drew
  generalize (W.alloc (.cells #[.int .i64 0, .slice none 0 0, .slice none 0 0, .int .i64 0, .int .i64 0, .int .i64 0] 61)).drew = X at *
  refine (clone_any v xs X (h.keep h1) hl).mono ?_
  rintro e w' ⟨v', rfl, ho, hb⟩
  obtain ⟨A, c, rfl, -, -, -⟩ := owns_rd ho.1
  exact ⟨A, c, rfl, by rw [← h2]; exact ho, h1.trans (hb.mono (by omega)), h3.keep hb⟩

theorem Rd.intx {w : World} {b off : Nat} {xs : List Int} (h : Rd w (some ⟨b, off, none⟩) (xs.map (Value.int .i64))) {k : Nat} {x : Int} (hk : xs[k]? = some x) : b < w.heap.size ∧ w.cell? ⟨b, off + k, none⟩ = some (.int .i64 x) := by
  obtain ⟨b', off', hA, h1, h2⟩ := h.int hk
  injection hA with e
  injection e with e1 e2 e3
  subst e1 e2
  exact ⟨h1, h2⟩
theorem Fnds.atx {w : World} {b off : Nat} {ps : List (Fnd × FndM)} (h : Rd w (some ⟨b, off, none⟩) (ps.flatMap Fnd.cells)) {k : Nat} {p : Fnd × FndM} (hk : ps[k]? = some p) : b < w.heap.size ∧ FCells w b (off + k * 12) p.1 p.2 := by
  obtain ⟨b', off', hA, h1, h2⟩ := Fnds.at_ h hk
  injection hA with e
  injection e with e1 e2 e3
  subst e1 e2
  exact ⟨h1, h2⟩

theorem compactUpTo_len (d : Array Int) (m : Nat) : (Lib.compactUpTo d m).length ≤ m := by
  induction m with
  | zero => simp [Lib.compactUpTo]
  | succ m ih =>
    rw [Lib.compactUpTo_succ, List.length_append]
    split <;> simp <;> omega
theorem compactUpTo_mem (d : Array Int) (m : Nat) (hm : m ≤ d.size) : ∀ x ∈ Lib.compactUpTo d m, x ∈ d.toList := by
  induction m with
  | zero => simp [Lib.compactUpTo]
  | succ m ih =>
    intro x hx
    rw [Lib.compactUpTo_succ, List.mem_append] at hx
    rcases hx with hx | hx
    · exact ih (by omega) x hx
    · split at hx
      · rw [List.mem_singleton] at hx
        subst hx
        rw [getElem!_pos d m (by omega)]
        simp
      · simp at hx
theorem compact_len (zs : List Int) : (Lib.compact zs).length ≤ zs.length := compactUpTo_len zs.toArray zs.length
theorem compact_mem (zs : List Int) : ∀ x ∈ Lib.compact zs, x ∈ zs := fun x hx => by simpa using compactUpTo_mem zs.toArray zs.length (by simp) x hx

/-- The first of the indices with the shortest witness. -/
def bestOf (fs : List Fnd) (b0 : Nat) (G : List Nat) : Nat := G.foldl (fun b i => if ((fs[i]?).map Fnd.wl).getD 0 < ((fs[b]?).map Fnd.wl).getD 0 then i else b) b0
def stOf (fs : List Fnd) (i : Nat) : Int := ((fs[i]?).map Fnd.start).getD 0
def wlOf (fs : List Fnd) (i : Nat) : Nat := ((fs[i]?).map Fnd.wl).getD 0
def startsOf (fs : List Fnd) (G : List Nat) : List Int := Lib.compact ((G.map (stOf fs)).mergeSort fun x y => decide (x ≤ y))
/-- The report of a group of findings, given by their indices. -/
def repOf (fs : List Fnd) (G : List Nat) : Rep :=
  let f := (fs[G.headD 0]?).getD ⟨0, 0, false, 0, []⟩
  let b := bestOf fs (G.headD 0) G
  ⟨f.kind, f.sites, startsOf fs G, G.length, b, scoreOf f.kind (startsOf fs G).length (wlOf fs b)⟩

theorem score_i64 (k n l : Int) : I64 (scoreOf k n l) := by
  have h1 := scBase_cases k
  have h2 := clip_cases n 20
  have h3 := clip_cases l 16
  unfold scoreOf I64
  omega
theorem repOf_eq {fs : List Fnd} {G : List Nat} {i0 best : Nat} {q bp : Fnd} (h0 : G[0]? = some i0) (hq : fs[i0]? = some q) (hb : best = bestOf fs i0 G) (hbp : fs[best]? = some bp) :
    repOf fs G = ⟨q.kind, q.sites, startsOf fs G, G.length, best, scoreOf q.kind (startsOf fs G).length bp.wl⟩ := by
  have e : G.headD 0 = i0 := by
    cases G with
    | nil => simp at h0
    | cons x r => simpa using h0
  unfold repOf
  rw [e, hq, ← hb]
  simp only [Option.getD_some, wlOf, hbp, Option.map_some]

set_option maxRecDepth 100000 in
set_option maxHeartbeats 4000000 in
theorem summary_any (ps : List (Fnd × FndM)) (A : Option Addr) (c : Nat) (gv : Value) (G : List Nat) (w : World) (hr : Rd w A (ps.flatMap Fnd.cells)) (hok : ∀ q ∈ ps, FndOk w q)
    (hg : Ints w gv (G.map fun n => ((n : Nat) : Int))) (hG : ∀ i ∈ G, i < ps.length) (h0 : 0 < G.length) (hGl : G.length ≤ 1000000) (hps : ps.length ≤ 1000000) (hss : ∀ q ∈ ps, q.1.sites.length ≤ 1000000) :
    Calls Tryd.prog 42 #[.slice A ps.length c, gv] w fun e w' => ∃ v, e = .returned v ∧ IsRepO w' (fun b => w.heap.size < b) v (repOf (ps.map (·.1)) G) ∧ Below w.heap.size w w' := by
  obtain ⟨i0, hi0⟩ : ∃ i0, G[0]? = some i0 := ⟨_, List.getElem?_eq_getElem h0⟩
  have hil : i0 < ps.length := hG i0 (List.mem_of_getElem? hi0)
  obtain ⟨q0, hq0⟩ : ∃ q, ps[i0]? = some q := ⟨_, List.getElem?_eq_getElem hil⟩
  obtain ⟨b, off, rfl, hb, hci⟩ := Fnds.at_ hr hq0
  have HR := Lib.hid hr
  have HOK := Lib.hid hok
  have HOI := Lib.hid (hok q0 (List.mem_of_getElem? hq0))
  have HGG := Lib.hid hG
  have HGV := Lib.hid hg
  have HSS := Lib.hid hss
  obtain ⟨Ag, cg, rfl, g1, g2, g3, g4⟩ := hg
  rw [List.length_map] at g1
  have HG4 := Lib.hid g4
  obtain ⟨bg, og, rfl, hbg, hg0⟩ := g4.int (k := 0) (x := (i0 : Int)) (by rw [List.getElem?_map, hi0]; rfl)
  have HI0 := Lib.hid hi0
  have HQ0 := Lib.hid hq0
  obtain ⟨q, qm⟩ := q0
  obtain ⟨k0, k1, k2, k3, k4, k5, k6, k7, k8, k9, k10, k11⟩ := hci
  simp only at k0 k1 k2 k3 k4 k5 k6 k7 k8 k9 k10 k11
  rw [Nat.add_zero] at hg0
  unfold maxLen at g2
  have li : (i0 : Int) < ps.length := by omega
  have l0 : (0 : Int) < G.length := by omega
  rw [List.length_map] at HGV ⊢
  clear hr hok hG hss g3 g4 hi0 hq0
  go_enter Tryd.func42, Tryd.ntmps42
  go_wp2_with fail
  clear k0 k1 k2 k3 k4 k5 k6 k7 k8 k9 k10 k11
  have B0 := (Blk.new w 61 #[.int .i64 0, .slice none 0 0, .slice none 0 0, .int .i64 0, .int .i64 0, .int .i64 0]).alloc (.cells #[.int .i64 q.start, .int .i64 q.kind, .int .i64 qm.a, .int .i64 qm.b, .int .i64 qm.c, .int .i64 qm.d, .slice qm.cA qm.cn qm.cc, .bool q.found, .slice qm.wA q.wl qm.wc, .slice qm.pA qm.pn qm.pc, .int .i64 qm.r, .slice qm.sA q.sites.length qm.sc] 58)
  have B1 := Blk.new (w.alloc (.cells #[.int .i64 0, .slice none 0 0, .slice none 0 0, .int .i64 0, .int .i64 0, .int .i64 0] 61)) 58 #[.int .i64 q.start, .int .i64 q.kind, .int .i64 qm.a, .int .i64 qm.b, .int .i64 qm.c, .int .i64 qm.d, .slice qm.cA qm.cn qm.cc, .bool q.found, .slice qm.wA q.wl qm.wc, .slice qm.pA qm.pn qm.pc, .int .i64 qm.r, .slice qm.sA q.sites.length qm.sc]
  simp only [World.size_alloc] at B1
  have hG : Below w.heap.size w ((w.alloc (.cells #[.int .i64 0, .slice none 0 0, .slice none 0 0, .int .i64 0, .int .i64 0, .int .i64 0] 61)).alloc (.cells #[.int .i64 q.start, .int .i64 q.kind, .int .i64 qm.a, .int .i64 qm.b, .int .i64 qm.c, .int .i64 qm.d, .slice qm.cA qm.cn qm.cc, .bool q.found, .slice qm.wA q.wl qm.wc, .slice qm.pA qm.pn qm.pc, .int .i64 qm.r, .slice qm.sA q.sites.length qm.sc] 58)) := ((Below.refl _ _).alloc (Nat.le_refl _) _).alloc (by simp) _
  have hsz : ((w.alloc (.cells #[.int .i64 0, .slice none 0 0, .slice none 0 0, .int .i64 0, .int .i64 0, .int .i64 0] 61)).alloc (.cells #[.int .i64 q.start, .int .i64 q.kind, .int .i64 qm.a, .int .i64 qm.b, .int .i64 qm.c, .int .i64 qm.d, .slice qm.cA qm.cn qm.cc, .bool q.found, .slice qm.wA q.wl qm.wc, .slice qm.pA qm.pn qm.pc, .int .i64 qm.r, .slice qm.sA q.sites.length qm.sc] 58)).heap.size = w.heap.size + 2 := by simp
  generalize (w.alloc (.cells #[.int .i64 0, .slice none 0 0, .slice none 0 0, .int .i64 0, .int .i64 0, .int .i64 0] 61)).alloc (.cells #[.int .i64 q.start, .int .i64 q.kind, .int .i64 qm.a, .int .i64 qm.b, .int .i64 qm.c, .int .i64 qm.d, .slice qm.cA qm.cn qm.cc, .bool q.found, .slice qm.wA q.wl qm.wc, .slice qm.pA qm.pn qm.pc, .int .i64 qm.r, .slice qm.sA q.sites.length qm.sc] 58) = W at *
  have HG := Lib.hid hG
  have HZ := Lib.hid hsz
  have q1 := B1.cell 1
  have q11 := B1.cell 11
  simp only [List.getElem?_toArray, List.getElem?_cons_zero, List.getElem?_cons_succ] at q1 q11
  have hz1 := B1.lt
  have hzg : bg < W.heap.size := Nat.lt_of_lt_of_le hbg hG.size
  have hg0' := (hG.cell (p := ⟨bg, og, none⟩) hbg).trans hg0
  have HSOF : Hid (∀ w', Below W.heap.size W w' → w'.cell? ⟨w.heap.size + 1, 1, none⟩ = some (.int .i64 q.kind) ∧ w'.cell? ⟨w.heap.size + 1, 11, none⟩ = some (.slice qm.sA q.sites.length qm.sc) ∧ w'.cell? ⟨bg, og, none⟩ = some (.int .i64 (i0 : Int)) ∧ Below W.heap.size W w') :=
    fun w' h => ⟨(h.cell (p := ⟨w.heap.size + 1, 1, none⟩) hz1).trans q1, (h.cell (p := ⟨w.heap.size + 1, 11, none⟩) hz1).trans q11, (h.cell (p := ⟨bg, og, none⟩) hzg).trans hg0', h⟩
  have HI1 : Hid (Ints W (.slice qm.sA q.sites.length qm.sc) q.sites) := Lib.hid (HOI.out.1.keep HG.out)
  have HSL : Hid (q.sites.length ≤ 17000000000000) := Lib.hid (Nat.le_trans (HSS.out _ (List.mem_of_getElem? HQ0.out)) (by omega))
  have HB0 := Lib.hid B0
  clear hG hsz B0 B1 q1 q11 hg0 hg0'
  go_region_held3 (fun w' => w'.cell? ⟨w.heap.size + 1, 1, none⟩ = some (.int .i64 q.kind) ∧ w'.cell? ⟨w.heap.size + 1, 11, none⟩ = some (.slice qm.sA q.sites.length qm.sc) ∧ w'.cell? ⟨bg, og, none⟩ = some (.int .i64 (i0 : Int)) ∧ Below W.heap.size W w') (first | with_reducible assumption | ((with_reducible apply HSOF.out); (first | with_reducible assumption | ((with_reducible apply Below.al); with_reducible assumption) | ((with_reducible apply Below.set6); with_reducible assumption) | ((with_reducible apply Below.drew); with_reducible apply Below.refl) | ((with_reducible apply Below.drew); (with_reducible apply Below.al); with_reducible apply Below.refl)))) (first
    | (go_at_call 62; (with_reducible refine (clone1 W _ _ HI1.out HSL.out).mono ?_); rintro e w3 ⟨A3, c3, rfl, ho3, hb4⟩; have hs3 := HSOF.out w3 hb4; have HO3 := Lib.hid ho3; clear ho3)
    | (go_at_call 62; (with_reducible refine (clone2 W _ _ HI1.out HSL.out).mono ?_); rintro e w3 ⟨A3, c3, rfl, ho3, hb4, B9⟩; have hs3 := HSOF.out w3 hb4; have HO3 := Lib.hid ho3; have c0 := B9.cell 0; have c1 := B9.cell 1; have c2 := B9.cell 2; have c3' := B9.cell 3; have c4 := B9.cell 4; have c5 := B9.cell 5; have z0 := B9.frozen 0; have z1 := B9.frozen 1; have z2 := B9.frozen 2; have z3 := B9.frozen 3; have z4 := B9.frozen 4; have z5 := B9.frozen 5; simp only [List.getElem?_toArray, List.getElem?_cons_zero, List.getElem?_cons_succ] at c0 c1 c2 c3' c4 c5; have HB9 := Lib.hid B9; clear ho3 B9))
  all_goals go_wp2_with fail
  have HST : Hid (SumSt w (w3.alloc (.cells #[.int .i64 q.kind, .slice A3 q.sites.length c3, .slice none 0 0, .int .i64 (G.length : Int), .int .i64 (i0 : Int), .int .i64 0] 61)) w3.heap.size (w3.heap.size + 1) q.kind G.length i0 (.slice A3 q.sites.length c3) (.slice none 0 0) q.sites []) := by
    have e1 := HZ.out
    have e2 := hb4.size
    have hbw : Below w.heap.size w w3 := HG.out.trans (hb4.mono HG.out.size)
    refine Lib.hid ⟨hbw.alloc hbw.size _, by omega, by omega, by simp, (HB0.out.keep hb4).alloc _, Blk.new _ _ _, ⟨World.ownsRow_nil _ _ _ _, by simp⟩, ?_⟩
    exact (HO3.out.intsO (P := fun b => b < w3.heap.size + 1 ∧ b ≠ w3.heap.size ∧ w.heap.size < b) fun b q1 q2 _ => ⟨by omega, by omega, by omega⟩).keep (Below.al (Below.refl _ _) _)
  generalize w3.alloc (.cells #[.int .i64 q.kind, .slice A3 q.sites.length c3, .slice none 0 0, .int .i64 (G.length : Int), .int .i64 (i0 : Int), .int .i64 0] 61) = W3 at HST ⊢
  generalize w3.heap.size + 1 = N0 at HST
  clear hs3 hb4 HO3
  generalize w3.heap.size = rb at HST ⊢
  rotate_left
  have HST : Hid (SumSt w (set6 w3 W.heap.size (.int .i64 q.kind) (.slice A3 q.sites.length c3) (.slice none 0 0) (.int .i64 (G.length : Int)) (.int .i64 (i0 : Int)) (.int .i64 0)) W.heap.size w3.heap.size q.kind G.length i0 (.slice A3 q.sites.length c3) (.slice none 0 0) q.sites []) := by
    have e1 := HZ.out
    have e2 := hb4.size
    have e3 := HB9.out.lt
    have hbw : Below w.heap.size w w3 := HG.out.trans (hb4.mono HG.out.size)
    have hg6 := grown_set6 w3 W.heap.size (.int .i64 q.kind) (.slice A3 q.sites.length c3) (.slice none 0 0) (.int .i64 (G.length : Int)) (.int .i64 (i0 : Int)) (.int .i64 0)
    refine Lib.hid ⟨hbw.grown hg6 hbw.size fun k e => by injection e with e; omega, by omega, by omega, hg6.size, (HB0.out.keep hb4).grown hg6 (by simp; omega), blk_set6 HB9.out _ _ _ _ _ _, ⟨World.ownsRow_nil _ _ _ _, by simp⟩, ?_⟩
    exact (HO3.out.intsO (P := fun b => b < w3.heap.size ∧ b ≠ W.heap.size ∧ w.heap.size < b) fun b q1 q2 _ => ⟨by omega, by omega, by omega⟩).grown hg6 fun b hb e => by injection e with e; exact hb.2.1 e
  clear c0 c1 c2 c3' c4 c5 z0 z1 z2 z3 z4 z5 HB9 hs3 hb4 HO3
  unfold set6 at HST
  generalize (((((w3.setCell ⟨W.heap.size, 0, none⟩ (.int .i64 q.kind)).setCell ⟨W.heap.size, 1, none⟩ (.slice A3 q.sites.length c3)).setCell ⟨W.heap.size, 2, none⟩ (.slice none 0 0)).setCell ⟨W.heap.size, 3, none⟩ (.int .i64 (G.length : Int))).setCell ⟨W.heap.size, 4, none⟩ (.int .i64 (i0 : Int))).setCell ⟨W.heap.size, 5, none⟩ (.int .i64 0) = W3 at HST ⊢
  generalize w3.heap.size = N0 at HST
  clear HSOF HI1 HG HZ HB0 hz1 hzg
  generalize W.heap.size = rb at HST ⊢
  rotate_left
  all_goals
    obtain ⟨iI, hiI, hzI0, hzI1, hzI2⟩ := info_parts info_int
    go_loopw [30] (fun kv wr => ∃ (k best : Nat) (tv : Value), k ≤ G.length ∧ kv = .int .i64 k ∧ Hid (SumSt w wr rb N0 q.kind G.length best (.slice A3 q.sites.length c3) tv q.sites ((G.take k).map (stOf (ps.map (·.1))))) ∧ Hid (best = bestOf (ps.map (·.1)) i0 (G.take k)) ∧ best < ps.length) (fun kv _ => G.length - (intOf kv).toNat)
    case atStart => exact ⟨0, i0, _, by omega, rfl, HST, Lib.hid rfl, hil⟩
    case round =>
      clear HST
      obtain ⟨k, best, tv, hk, rfl, HST, HBE, hbl⟩ := hrel
      by_cases hlt : k < G.length
      · obtain ⟨i, hik⟩ : ∃ i, G[k]? = some i := ⟨_, List.getElem?_eq_getElem hlt⟩
        obtain ⟨hbgl, hgk⟩ := (HG4.out.keep HST.out.bl).intx (k := k) (x := (i : Int)) (by rw [List.getElem?_map, hik]; rfl)
        have hil2 : i < ps.length := HGG.out i (List.mem_of_getElem? hik)
        obtain ⟨p, hp⟩ : ∃ q, ps[i]? = some q := ⟨_, List.getElem?_eq_getElem hil2⟩
        have HOP := Lib.hid (HOK.out p (List.mem_of_getElem? hp))
        have HIK := Lib.hid hik
        have HPP := Lib.hid hp
        obtain ⟨hbl2, hcp⟩ := Fnds.atx (HR.out.keep HST.out.bl) hp
        obtain ⟨p, pm⟩ := p
        obtain ⟨p0, -, -, -, -, -, -, -, -, -, -, -⟩ := hcp
        simp only at p0
        obtain ⟨At, ct, htv, -, -, -⟩ := owns_rd HST.out.own.1
        subst htv
        have b2 := HST.out.blk.cell 2
        have z2 := HST.out.blk.frozen 2
        simp only [List.getElem?_toArray, List.getElem?_cons_zero, List.getElem?_cons_succ] at b2
        have lk : (k : Int) < G.length := by omega
        have li2 : (i : Int) < ps.length := by omega
        have HLEN : Hid (((G.take k).map (stOf (ps.map (·.1)))).length = k) := Lib.hid (by rw [List.length_map, List.length_take]; omega)
        have hrw := HLEN.out
        rw [hrw] at HST b2
        clear hrw hik hp
        have b2a := (HST.out.blk.alloc (.cells #[.int .i64 p.start] 3)).cell 2
        simp only [List.getElem?_toArray, List.getElem?_cons_zero, List.getElem?_cons_succ] at b2a
        have HN : Hid (∀ j u, [.int .i64 p.start][j]? = some u → (wr.alloc (.cells #[.int .i64 p.start] 3)).cell? ((⟨wr.heap.size, 0, none⟩ : Addr).add j) = some u) := cells_at wr _ [.int .i64 p.start] rfl
        have HO1 : Hid (∀ u ∈ ([.int .i64 p.start] : List Value), u.oneCell' = true) := by
          refine Lib.hid ?_
          intro u hu; simp at hu; subst hu; rfl
        have HM1 : Hid (k + 1 ≤ maxLen) := by refine Lib.hid ?_; unfold maxLen; omega
        have HM2 : Hid ((k + 1) * 8 ≤ 140737488355328) := by refine Lib.hid ?_; omega
        have HM3 : Hid (N0 ≤ (wr.alloc (.cells #[.int .i64 p.start] 3)).heap.size) := by
          refine Lib.hid ?_
          have := HST.out.h3
          simp; omega
        have HOW : Hid (wr.ownsRow N0 3 1 (.slice At k ct) k (((G.take k).map (stOf (ps.map (·.1)))).map (Value.int .i64))) := Lib.hid (by have h := HST.out.own.1; rwa [HLEN.out] at h)
        have HPS : Hid (I64 p.start) := Lib.hid HOP.out.2.1
        go_wp2_with fail
        go_region_law (refine step_append_ownR rfl (.tmp 35) (.tmp 41) 33 rfl N0 3 iI (.int .i64 0) 1 8 Tryd.underlying33 hiI hzI0 hzI1 hzI2 rfl (by decide) (.slice At k ct) k (((G.take k).map (stOf (ps.map (·.1)))).map (Value.int .i64)) (by simp [Act.eval]) (HOW.out.alloc _).drew ⟨wr.heap.size, 0, none⟩ 1 1 [.int .i64 p.start] (by simp [Act.eval]) rfl HN.out HO1.out HM1.out HM2.out HM3.out ?_; intro v' w2 hown hg hat; obtain ⟨A', c', hv', -, -, -⟩ := owns_rd hown; subst hv'; obtain ⟨hst, hb2⟩ := HST.out.push (x := p.start) HPS.out (by rw [HLEN.out]; exact hown) (show (wr.alloc _).grownBy w2 _ from ⟨hg.os, hg.tape, hg.output, hg.size, hg.block⟩); have HST2 := Lib.hid hst; have c2 := hb2.cell 2; have zz2 := hb2.frozen 2; simp only [List.getElem?_toArray, List.getElem?_cons_zero, List.getElem?_cons_succ] at c2; clear hst hb2 hown hg hat)
        all_goals
          clear b2 z2 b2a c2 zz2 HN HO1 HM1 HM2 HM3 HOW p0 hgk
          generalize w2.setCell ⟨rb, 2, none⟩ (.slice A' (k + 1) c') = W5 at HST2 ⊢
          obtain ⟨bp, hbp⟩ : ∃ q, ps[best]? = some q := ⟨_, List.getElem?_eq_getElem hbl⟩
          obtain ⟨-, hcp⟩ := Fnds.atx (HR.out.keep HST2.out.bl) HPP.out
          obtain ⟨-, -, -, -, -, -, -, -, p8, -, -, -⟩ := hcp
          obtain ⟨-, hcb⟩ := Fnds.atx (HR.out.keep HST2.out.bl) hbp
          obtain ⟨-, -, -, -, -, -, -, -, d8, -, -, -⟩ := hcb
          have HBP := Lib.hid hbp
          clear hbp
          obtain ⟨bp, bm⟩ := bp
          simp only at p8 d8
          have b4 := HST2.out.blk.cell 4
          have z4 := HST2.out.blk.frozen 4
          simp only [List.getElem?_toArray, List.getElem?_cons_zero, List.getElem?_cons_succ] at b4
          have lb : (best : Int) < ps.length := by omega
          have lb0 : (0 : Int) ≤ best := by omega
          have HSE : Hid (((G.take (k + 1)).map (stOf (ps.map (·.1)))) = (G.take k).map (stOf (ps.map (·.1))) ++ [p.start]) := Lib.hid (by
            rw [take_succ_of HIK.out, List.map_append, List.map_singleton]
            congr 2
            unfold stOf; rw [List.getElem?_map, HPP.out]; rfl)
          have HBST : Hid (bestOf (ps.map (·.1)) i0 (G.take (k + 1)) = if p.wl < bp.wl then i else best) := Lib.hid (by
            rw [take_succ_of HIK.out]
            unfold bestOf
            rw [List.foldl_append]
            show (if ((((ps.map (·.1))[i]?).map Fnd.wl).getD 0 < (((ps.map (·.1))[bestOf (ps.map (·.1)) i0 (G.take k)]?).map Fnd.wl).getD 0) then i else bestOf (ps.map (·.1)) i0 (G.take k)) = _
            rw [← HBE.out, List.getElem?_map, List.getElem?_map, HPP.out, HBP.out]; rfl)
          by_cases hwl : p.wl < bp.wl
          · have HBS : Hid (i = bestOf (ps.map (·.1)) i0 (G.take (k + 1))) := Lib.hid (by rw [HBST.out, if_pos hwl])
            have t1 : decide (p.wl < bp.wl) = true := by simpa using hwl
            go_wp2_with fail
            go_quiet (fail)
            go_wp2_with fail
            go_roundw
            case rel => exact ⟨k + 1, i, _, by omega, by go_num, Lib.hid (by rw [HSE.out]; exact (HST2.out.drewN _).best_ i), HBS, hil2⟩
            case measure => simp [intOf]; omega
          · have HBS : Hid (best = bestOf (ps.map (·.1)) i0 (G.take (k + 1))) := Lib.hid (by rw [HBST.out, if_neg hwl])
            have t1 : decide (p.wl < bp.wl) = false := by simpa using hwl
            go_wp2_with fail
            go_quiet (fail)
            go_wp2_with fail
            go_roundw
            case rel => exact ⟨k + 1, best, _, by omega, by go_num, Lib.hid (by rw [HSE.out]; exact HST2.out.drewN _), HBS, hbl⟩
            case measure => simp [intOf]; omega
      · obtain rfl : k = G.length := by omega
        rw [List.take_length] at HST HBE
        obtain ⟨sts, hsts⟩ : ∃ sts, sts = G.map (stOf (ps.map (·.1))) := ⟨_, rfl⟩
        have HSTS := Lib.hid hsts
        rw [← hsts] at HST
        have HL1 : Hid (sts.length = G.length) := Lib.hid (by rw [hsts, List.length_map])
        clear hsts
        obtain ⟨g, ct, htv⟩ : ∃ g ct, tv = .slice (some ⟨g, 0, none⟩) sts.length ct := by
          rcases owns_shape HST.out.own.1 with ⟨-, h1, -⟩ | h1
          · have := HL1.out; omega
          · exact h1
        subst htv
        have b2 := HST.out.blk.cell 2
        simp only [List.getElem?_toArray, List.getElem?_cons_zero, List.getElem?_cons_succ] at b2
        have lk : ¬ (G.length : Int) < G.length := by omega
        go_wp2_with fail
        refine (sort_own N0 g sts.length ct sts wr HST.out.own rfl (by have := HL1.out; omega)).mono ?_
        rintro e w4 ⟨rfl, ho4, hg4⟩
        obtain ⟨ss, hss⟩ : ∃ ss, ss = sts.mergeSort fun x y => decide (x ≤ y) := ⟨_, rfl⟩
        have HSS4 := Lib.hid hss
        have HL2 : Hid (ss.length = sts.length) := Lib.hid (by rw [hss]; simp)
        rw [← hss] at ho4
        have HST4 := Lib.hid (HST.out.sorted hg4 ho4)
        clear hss ho4 hg4 HST b2
        have b2 := HST4.out.blk.cell 2
        simp only [List.getElem?_toArray, List.getElem?_cons_zero, List.getElem?_cons_succ] at b2
        go_wp2_with fail
        refine (compact_own N0 g sts.length ct ss w4 HST4.out.own HL2.out (by have := HL1.out; omega) (compact_len ss) (compact_mem ss)).mono ?_
        rintro e w5 ⟨rfl, ho5, hg5⟩
        obtain ⟨hst5, hb5⟩ := HST4.out.fewer hg5 ho5
        have c2 := hb5.cell 2
        have z2 := hb5.frozen 2
        simp only [List.getElem?_toArray, List.getElem?_cons_zero, List.getElem?_cons_succ] at c2
        have HST5 := Lib.hid hst5
        have HLC : Hid ((Lib.compact ss).length ≤ 1000000) := Lib.hid (by have h1 := compact_len ss; have h2 := HL1.out; have h3 := HL2.out; omega)
        obtain ⟨cs, hcs⟩ : ∃ cs, cs = Lib.compact ss := ⟨_, rfl⟩
        have HCS := Lib.hid hcs
        rw [← hcs] at HST5 HLC ⊢
        clear hst5 hb5 ho5 hg5 HST4 b2 hcs
        go_upto_region 12 with fail
        clear c2 z2
        generalize w5.setCell ⟨rb, 2, none⟩ (.slice (some ⟨g, 0, none⟩) cs.length ct) = W6 at HST5 ⊢
        obtain ⟨bp, hbp⟩ : ∃ q, ps[best]? = some q := ⟨_, List.getElem?_eq_getElem hbl⟩
        obtain ⟨-, hcb⟩ := Fnds.atx (HR.out.keep HST5.out.bl) hbp
        obtain ⟨-, -, -, -, -, -, -, -, d8, -, -, -⟩ := hcb
        have HBP := Lib.hid hbp
        clear hbp
        obtain ⟨bp, bm⟩ := bp
        simp only at d8
        have b0 := HST5.out.blk.cell 0
        have b2 := HST5.out.blk.cell 2
        have b4 := HST5.out.blk.cell 4
        have b5 := HST5.out.blk.cell 5
        have z5 := HST5.out.blk.frozen 5
        simp only [List.getElem?_toArray, List.getElem?_cons_zero, List.getElem?_cons_succ] at b0 b2 b4 b5
        have lb : (best : Int) < ps.length := by omega
        have lb0 : (0 : Int) ≤ best := by omega
        have HNE : Hid (b ≠ rb) := Lib.hid (by have := HST5.out.h1; omega)
        have HSA : Hid ((fun w' : World => w'.cell? ⟨rb, 0, none⟩ = some (.int .i64 q.kind) ∧ w'.cell? ⟨rb, 2, none⟩ = some (.slice (some ⟨g, 0, none⟩) cs.length ct) ∧ w'.cell? ⟨rb, 4, none⟩ = some (.int .i64 (best : Int)) ∧ w'.cell? ⟨b, off + best * 12 + 8, none⟩ = some (.slice bm.wA bp.wl bm.wc)) W6.drew) := Lib.hid ⟨b0, b2, b4, d8⟩
        have HSB : Hid (∀ x : Value, (fun w' : World => w'.cell? ⟨rb, 0, none⟩ = some (.int .i64 q.kind) ∧ w'.cell? ⟨rb, 2, none⟩ = some (.slice (some ⟨g, 0, none⟩) cs.length ct) ∧ w'.cell? ⟨rb, 4, none⟩ = some (.int .i64 (best : Int)) ∧ w'.cell? ⟨b, off + best * 12 + 8, none⟩ = some (.slice bm.wA bp.wl bm.wc)) (W6.setCell ⟨rb, 5, none⟩ x).drew) := Lib.hid fun x => by
          have o : ∀ j, j ≠ 5 → (W6.setCell ⟨rb, 5, none⟩ x).cell? ⟨rb, j, none⟩ = W6.cell? ⟨rb, j, none⟩ := fun j hj => World.cell?_setCell_other _ _ _ _ (by intro e'; simp only [Addr.mk.injEq] at e'; omega)
          refine ⟨(o 0 (by omega)).trans b0, (o 2 (by omega)).trans b2, (o 4 (by omega)).trans b4, (World.cell?_setCell_other _ _ _ _ (by intro e'; simp only [Addr.mk.injEq] at e'; exact HNE.out e'.1.symm)).trans d8⟩
        clear b0 b2 b4 d8
        go_region_held3 (fun w' => w'.cell? ⟨rb, 0, none⟩ = some (.int .i64 q.kind) ∧ w'.cell? ⟨rb, 2, none⟩ = some (.slice (some ⟨g, 0, none⟩) cs.length ct) ∧ w'.cell? ⟨rb, 4, none⟩ = some (.int .i64 (best : Int)) ∧ w'.cell? ⟨b, off + best * 12 + 8, none⟩ = some (.slice bm.wA bp.wl bm.wc)) (first | with_reducible assumption | exact HSA.out | with_reducible apply HSB.out) (first
          | (go_at_call 16; refine (score_any _ _ _ _).mono ?_; rintro e w7 ⟨rfl, rfl⟩))
        have B7 : Blk (W6.setCell ⟨rb, 5, none⟩ (.int .i64 (scoreOf q.kind cs.length bp.wl))).drew rb 61 #[.int .i64 q.kind, .slice A3 q.sites.length c3, .slice (some ⟨g, 0, none⟩) cs.length ct, .int .i64 (G.length : Int), .int .i64 (best : Int), .int .i64 (scoreOf q.kind cs.length bp.wl)] := (HST5.out.blk.set_ 5 _).drew
        have hg7 : W6.grownBy (W6.setCell ⟨rb, 5, none⟩ (.int .i64 (scoreOf q.kind cs.length bp.wl))).drew (some rb) := grownBy_trans (grownBy_set0 _ _ _ _) (grownBy_drew _ _)
        have R7 := HST5.out.res.grown hg7 (by have := HST5.out.h1; simp; omega)
        have HG7 := Lib.hid hg7
        clear b5 z5 hg7
        generalize (W6.setCell ⟨rb, 5, none⟩ (.int .i64 (scoreOf q.kind cs.length bp.wl))).drew = W7 at *
        have c0 := B7.cell 0
        have c1 := B7.cell 1
        have c2 := B7.cell 2
        have c3' := B7.cell 3
        have c4 := B7.cell 4
        have c5 := B7.cell 5
        have d0 := R7.cell 0
        have d1 := R7.cell 1
        have d2 := R7.cell 2
        have d3 := R7.cell 3
        have d4 := R7.cell 4
        have d5 := R7.cell 5
        have z0 := R7.frozen 0
        have z1 := R7.frozen 1
        have z2 := R7.frozen 2
        have z3 := R7.frozen 3
        have z4 := R7.frozen 4
        have z5 := R7.frozen 5
        simp only [List.getElem?_toArray, List.getElem?_cons_zero, List.getElem?_cons_succ] at c0 c1 c2 c3' c4 c5 d0 d1 d2 d3 d4 d5
        have HR7 := Lib.hid R7
        clear B7 R7
        have HREP : Hid (repOf (ps.map (·.1)) G = ⟨q.kind, q.sites, cs, G.length, best, scoreOf q.kind cs.length bp.wl⟩) := Lib.hid (by
          have h := repOf_eq (fs := ps.map (·.1)) (q := q) (bp := bp) HI0.out (by rw [List.getElem?_map, HQ0.out]; rfl) HBE.out (by rw [List.getElem?_map, HBP.out]; rfl)
          rw [h]
          have e : startsOf (ps.map (·.1)) G = cs := by unfold startsOf; rw [HCS.out, HSS4.out, HSTS.out]
          rw [e])
        have hfin := HST5.out.fin (scoreOf q.kind cs.length bp.wl) ⟨HOI.out.2.2.1, ⟨by omega, by omega⟩, ⟨by omega, by omega⟩, score_i64 _ _ _⟩ HG7.out (grown_set6 W7 w.heap.size (.int .i64 q.kind) (.slice A3 q.sites.length c3) (.slice (some ⟨g, 0, none⟩) cs.length ct) (.int .i64 (G.length : Int)) (.int .i64 (best : Int)) (.int .i64 (scoreOf q.kind cs.length bp.wl)))
        have B8 := blk_set6 HR7.out (.int .i64 q.kind) (.slice A3 q.sites.length c3) (.slice (some ⟨g, 0, none⟩) cs.length ct) (.int .i64 (G.length : Int)) (.int .i64 (best : Int)) (.int .i64 (scoreOf q.kind cs.length bp.wl))
        have HFIN := Lib.hid hfin
        clear hfin
        unfold set6 at HFIN B8
        go_wp2_with fail
        clear c0 c1 c2 c3' c4 c5 d0 d1 d2 d3 d4 d5 z0 z1 z2 z3 z4 z5
        generalize ((((((W7.setCell ⟨w.heap.size, 0, none⟩ (.int .i64 q.kind)).setCell ⟨w.heap.size, 1, none⟩ (.slice A3 q.sites.length c3)).setCell ⟨w.heap.size, 2, none⟩ (.slice (some ⟨g, 0, none⟩) cs.length ct)).setCell ⟨w.heap.size, 3, none⟩ (.int .i64 (G.length : Int))).setCell ⟨w.heap.size, 4, none⟩ (.int .i64 (best : Int))).setCell ⟨w.heap.size, 5, none⟩ (.int .i64 (scoreOf q.kind cs.length bp.wl))) = W8 at *
        have u0 := B8.cell 0
        have u1 := B8.cell 1
        have u2 := B8.cell 2
        have u3 := B8.cell 3
        have u4 := B8.cell 4
        have u5 := B8.cell 5
        simp only [List.getElem?_toArray, List.getElem?_cons_zero, List.getElem?_cons_succ] at u0 u1 u2 u3 u4 u5
        exact bodyPost_ret (v := .agg #[.int .i64 q.kind, .slice A3 q.sites.length c3, .slice (some ⟨g, 0, none⟩) cs.length ct, .int .i64 (G.length : Int), .int .i64 (best : Int), .int .i64 (scoreOf q.kind cs.length bp.wl)]) (by simp [results, Tryd.results42, go_sem, u0, u1, u2, u3, u4, u5]) rfl ⟨_, rfl, by rw [HREP.out]; exact HFIN.out.1, HFIN.out.2⟩
end Go.Proofs.YtccpelfnkjckiaaDoor
