/-
  WORDS: findings in memory. WALK: report.Group$1 (the comparison of two findings).
-/
import Derived.Test.YtccpelfnkjckiaaDoorRepLess
import Derived.Deep.RegionHeld3
import Derived.RegionTactic
import Derived.BigRegion
namespace Go.Proofs.YtccpelfnkjckiaaDoor
open Go.RowKit

/-- A finding, as far as reports look at it. -/
structure Fnd where
  start : Int
  kind : Int
  found : Bool
  wl : Nat
  sites : List Int
/-- What else lies in a finding's memory. -/
structure FndM where
  a : Int
  b : Int
  c : Int
  d : Int
  cA : Option Addr
  cn : Nat
  cc : Nat
  wA : Option Addr
  wc : Nat
  pA : Option Addr
  pn : Nat
  pc : Nat
  r : Int
  sA : Option Addr
  sc : Nat
def Fnd.cells (q : Fnd × FndM) : List Value := [.int .i64 q.1.start, .int .i64 q.1.kind, .int .i64 q.2.a, .int .i64 q.2.b, .int .i64 q.2.c, .int .i64 q.2.d, .slice q.2.cA q.2.cn q.2.cc, .bool q.1.found, .slice q.2.wA q.1.wl q.2.wc, .slice q.2.pA q.2.pn q.2.pc, .int .i64 q.2.r, .slice q.2.sA q.1.sites.length q.2.sc]
def Fnd.val (f : Fnd) (m : FndM) : Value := .agg #[.int .i64 f.start, .agg #[.agg #[.int .i64 f.kind, .int .i64 m.a, .int .i64 m.b, .int .i64 m.c, .int .i64 m.d, .slice m.cA m.cn m.cc], .bool f.found, .slice m.wA f.wl m.wc, .slice m.pA m.pn m.pc, .int .i64 m.r], .slice m.sA f.sites.length m.sc]
def FndOk (w : World) (q : Fnd × FndM) : Prop := Ints w (.slice q.2.sA q.1.sites.length q.2.sc) q.1.sites ∧ I64 q.1.start ∧ I64 q.1.kind ∧ q.1.wl ≤ maxLen
/-- The value v is a slice of findings. -/
def Fnds (w : World) (v : Value) (l : List Fnd) : Prop :=
  ∃ (A : Option Addr) (c : Nat) (ps : List (Fnd × FndM)), ps.map (·.1) = l ∧ v = .slice A ps.length c ∧ ps.length ≤ c ∧ c ≤ maxLen ∧ Rd w A (ps.flatMap Fnd.cells) ∧ ∀ q ∈ ps, FndOk w q
theorem FndOk.keep {w w' : World} {q : Fnd × FndM} (h : FndOk w q) (hb : Below w.heap.size w w') : FndOk w' q := ⟨h.1.keep hb, h.2⟩
theorem Fnds.keep {w w' : World} {v : Value} {l : List Fnd} (h : Fnds w v l) (hb : Below w.heap.size w w') : Fnds w' v l := by
  obtain ⟨A, c, ps, h1, h2, h3, h4, h5, h6⟩ := h
  exact ⟨A, c, ps, h1, h2, h3, h4, h5.keep hb, fun q hq => (h6 q hq).keep hb⟩
theorem flat_getR {α β : Type} {xs : List α} {g : α → List β} {m : Nat} (hg : ∀ a, (g a).length = m) {k r : Nat} {a : α} (h : xs[k]? = some a) (hr : r < m) : (xs.flatMap g)[k * m + r]? = (g a)[r]? := by
  induction xs generalizing k with
  | nil => simp at h
  | cons x t ih =>
    cases k with
    | zero => simp at h; subst h; rw [List.flatMap_cons, Nat.zero_mul, Nat.zero_add, List.getElem?_append_left (by rw [hg]; exact hr)]
    | succ k =>
      rw [List.flatMap_cons, List.getElem?_append_right (by rw [hg, Nat.succ_mul]; omega), hg, show (k + 1) * m + r - m = k * m + r by rw [Nat.succ_mul]; omega]
      exact ih (by simpa using h)
/-- The twelve cells of a finding from the place o of block b on. -/
def FCells (w : World) (b o : Nat) (f : Fnd) (m : FndM) : Prop :=
  w.cell? ⟨b, o, none⟩ = some (.int .i64 f.start) ∧ w.cell? ⟨b, o + 1, none⟩ = some (.int .i64 f.kind) ∧ w.cell? ⟨b, o + 2, none⟩ = some (.int .i64 m.a) ∧ w.cell? ⟨b, o + 3, none⟩ = some (.int .i64 m.b) ∧
  w.cell? ⟨b, o + 4, none⟩ = some (.int .i64 m.c) ∧ w.cell? ⟨b, o + 5, none⟩ = some (.int .i64 m.d) ∧ w.cell? ⟨b, o + 6, none⟩ = some (.slice m.cA m.cn m.cc) ∧ w.cell? ⟨b, o + 7, none⟩ = some (.bool f.found) ∧
  w.cell? ⟨b, o + 8, none⟩ = some (.slice m.wA f.wl m.wc) ∧ w.cell? ⟨b, o + 9, none⟩ = some (.slice m.pA m.pn m.pc) ∧ w.cell? ⟨b, o + 10, none⟩ = some (.int .i64 m.r) ∧ w.cell? ⟨b, o + 11, none⟩ = some (.slice m.sA f.sites.length m.sc)
theorem FCells.keep {w w' : World} {b o : Nat} {f : Fnd} {m : FndM} (h : FCells w b o f m) (hb : Below w.heap.size w w') (hlt : b < w.heap.size) : FCells w' b o f m := by
  obtain ⟨h0, h1, h2, h3, h4, h5, h6, h7, h8, h9, h10, h11⟩ := h
  have k : ∀ j, w'.cell? ⟨b, j, none⟩ = w.cell? ⟨b, j, none⟩ := fun j => hb.cell (p := ⟨b, j, none⟩) hlt
  exact ⟨(k _).trans h0, (k _).trans h1, (k _).trans h2, (k _).trans h3, (k _).trans h4, (k _).trans h5, (k _).trans h6, (k _).trans h7, (k _).trans h8, (k _).trans h9, (k _).trans h10, (k _).trans h11⟩
theorem Fnds.at_ {w : World} {A : Option Addr} {ps : List (Fnd × FndM)} (h : Rd w A (ps.flatMap Fnd.cells)) {k : Nat} {p : Fnd × FndM} (hk : ps[k]? = some p) :
    ∃ b off, A = some ⟨b, off, none⟩ ∧ b < w.heap.size ∧ FCells w b (off + k * 12) p.1 p.2 := by
  have hg : ∀ r, r < 12 → (ps.flatMap Fnd.cells)[k * 12 + r]? = (Fnd.cells p)[r]? := fun r hr => flat_getR (g := Fnd.cells) (m := 12) (fun _ => rfl) hk hr
  obtain ⟨b, off, hA, hlt, hc⟩ := h (by have := (List.getElem?_eq_some_iff.1 ((hg 0 (by omega)).trans (show (Fnd.cells p)[0]? = some _ from rfl))).1; omega)
  have hx : ∀ r u, r < 12 → (Fnd.cells p)[r]? = some u → w.cell? ⟨b, off + k * 12 + r, none⟩ = some u := fun r u hr hu => by
    rw [Nat.add_assoc]; exact hc _ _ ((hg r hr).trans hu)
  exact ⟨b, off, hA, hlt, hx 0 _ (by omega) rfl, hx 1 _ (by omega) rfl, hx 2 _ (by omega) rfl, hx 3 _ (by omega) rfl, hx 4 _ (by omega) rfl, hx 5 _ (by omega) rfl, hx 6 _ (by omega) rfl, hx 7 _ (by omega) rfl, hx 8 _ (by omega) rfl, hx 9 _ (by omega) rfl, hx 10 _ (by omega) rfl, hx 11 _ (by omega) rfl⟩

/-- The order of findings. -/
def cmpF (a b : Fnd) : Int := orL [Lib.compareInt a.kind b.kind, cmpL a.sites b.sites]

theorem cmp2_new (w : World) (t : TypeId) (a b : Fnd) : Ints (w.alloc (.cells #[.int .i64 (Lib.compareInt a.kind b.kind), .int .i64 (cmpL a.sites b.sites)] t)) (.slice (some ⟨w.heap.size, 0, none⟩) 2 2) [Lib.compareInt a.kind b.kind, cmpL a.sites b.sites] :=
  ints_newR w t [_, _] (fun x hx => by simp only [List.mem_cons, List.not_mem_nil, or_false] at hx; rcases hx with rfl | rfl <;> first | exact compareInt_i64 _ _ | exact cmpL_i64 _ _) (by simp [maxLen])

set_option maxRecDepth 100000 in
set_option maxHeartbeats 4000000 in
theorem group1_any (lb : Nat) (v : Value) (ps : List (Fnd × FndM)) (A : Option Addr) (c i j : Nat) (p q : Fnd × FndM) (w : World) (hlb : lb < w.heap.size) (hlc : w.cell? ⟨lb, 0, none⟩ = some v) (hv : v = .slice A ps.length c)
    (hr : Rd w A (ps.flatMap Fnd.cells)) (hok : ∀ q ∈ ps, FndOk w q) (hi : ps[i]? = some p) (hj : ps[j]? = some q) :
    Calls Tryd.prog 37 #[.int .i64 i, .int .i64 j, .pointer (some ⟨lb, 0, none⟩)] w fun e w' => e = .returned (.int .i64 (cmpF p.1 q.1)) ∧ Grew w w' := by
  subst hv
  have HOI := Lib.hid (hok p (List.mem_of_getElem? hi))
  have HOJ := Lib.hid (hok q (List.mem_of_getElem? hj))
  have hil : i < ps.length := (List.getElem?_eq_some_iff.1 hi).1
  have hjl : j < ps.length := (List.getElem?_eq_some_iff.1 hj).1
  obtain ⟨b, off, rfl, hb, hci⟩ := Fnds.at_ hr hi
  obtain ⟨b', off', hA', hb', hcj⟩ := Fnds.at_ hr hj
  have eqb : b' = b ∧ off' = off := by injection hA' with e; injection e with e1 e2 e3; exact ⟨e1.symm, e2.symm⟩
  obtain ⟨rfl, rfl⟩ := eqb
  clear hA' hb' hr hok hi hj
  obtain ⟨p, pm⟩ := p
  obtain ⟨q, qm⟩ := q
  have HCI := Lib.hid hci
  have HCJ := Lib.hid hcj
  obtain ⟨i0, i1, i2, i3, i4, i5, i6, i7, i8, i9, i10, i11⟩ := hci
  obtain ⟨j0, j1, j2, j3, j4, j5, j6, j7, j8, j9, j10, j11⟩ := hcj
  have li : (i : Int) < ps.length := by omega
  have lj : (j : Int) < ps.length := by omega
  simp only at i0 i1 i2 i3 i4 i5 i6 i7 i8 i9 i10 i11 j0 j1 j2 j3 j4 j5 j6 j7 j8 j9 j10 j11
  go_enter Tryd.func37, Tryd.ntmps37
  go_wp2_with fail
  go_region
  · go_wp2_with fail
    have B0 := ((Blk.new w 58 #[.int .i64 p.start, .int .i64 p.kind, .int .i64 pm.a, .int .i64 pm.b, .int .i64 pm.c, .int .i64 pm.d, .slice pm.cA pm.cn pm.cc, .bool p.found, .slice pm.wA p.wl pm.wc, .slice pm.pA pm.pn pm.pc, .int .i64 pm.r, .slice pm.sA p.sites.length pm.sc]).alloc (.cells #[.int .i64 q.start, .int .i64 q.kind, .int .i64 qm.a, .int .i64 qm.b, .int .i64 qm.c, .int .i64 qm.d, .slice qm.cA qm.cn qm.cc, .bool q.found, .slice qm.wA q.wl qm.wc, .slice qm.pA qm.pn qm.pc, .int .i64 qm.r, .slice qm.sA q.sites.length qm.sc] 58)).drew
    have B1 := (Blk.new (w.alloc (.cells #[.int .i64 p.start, .int .i64 p.kind, .int .i64 pm.a, .int .i64 pm.b, .int .i64 pm.c, .int .i64 pm.d, .slice pm.cA pm.cn pm.cc, .bool p.found, .slice pm.wA p.wl pm.wc, .slice pm.pA pm.pn pm.pc, .int .i64 pm.r, .slice pm.sA p.sites.length pm.sc] 58)) 58 #[.int .i64 q.start, .int .i64 q.kind, .int .i64 qm.a, .int .i64 qm.b, .int .i64 qm.c, .int .i64 qm.d, .slice qm.cA qm.cn qm.cc, .bool q.found, .slice qm.wA q.wl qm.wc, .slice qm.pA qm.pn qm.pc, .int .i64 qm.r, .slice qm.sA q.sites.length qm.sc]).drew
    simp only [World.size_alloc] at B1
    have hG : Grew w (((w.alloc (.cells #[.int .i64 p.start, .int .i64 p.kind, .int .i64 pm.a, .int .i64 pm.b, .int .i64 pm.c, .int .i64 pm.d, .slice pm.cA pm.cn pm.cc, .bool p.found, .slice pm.wA p.wl pm.wc, .slice pm.pA pm.pn pm.pc, .int .i64 pm.r, .slice pm.sA p.sites.length pm.sc] 58)).alloc (.cells #[.int .i64 q.start, .int .i64 q.kind, .int .i64 qm.a, .int .i64 qm.b, .int .i64 qm.c, .int .i64 qm.d, .slice qm.cA qm.cn qm.cc, .bool q.found, .slice qm.wA q.wl qm.wc, .slice qm.pA qm.pn qm.pc, .int .i64 qm.r, .slice qm.sA q.sites.length qm.sc] 58)).drew) := (((Grew.refl _).alloc _).alloc _).drew
    generalize ((w.alloc (.cells #[.int .i64 p.start, .int .i64 p.kind, .int .i64 pm.a, .int .i64 pm.b, .int .i64 pm.c, .int .i64 pm.d, .slice pm.cA pm.cn pm.cc, .bool p.found, .slice pm.wA p.wl pm.wc, .slice pm.pA pm.pn pm.pc, .int .i64 pm.r, .slice pm.sA p.sites.length pm.sc] 58)).alloc (.cells #[.int .i64 q.start, .int .i64 q.kind, .int .i64 qm.a, .int .i64 qm.b, .int .i64 qm.c, .int .i64 qm.d, .slice qm.cA qm.cn qm.cc, .bool q.found, .slice qm.wA q.wl qm.wc, .slice qm.pA qm.pn qm.pc, .int .i64 qm.r, .slice qm.sA q.sites.length qm.sc] 58)).drew = W at *
    have HG := Lib.hid hG
    have q1 := B0.cell 1
    have q11 := B0.cell 11
    have r1 := B1.cell 1
    have r11 := B1.cell 11
    simp only [List.getElem?_toArray, List.getElem?_cons_zero, List.getElem?_cons_succ] at q1 q11 r1 r11
    have hz0 := B0.lt
    have hz1 := B1.lt
    have HSOF : Hid (∀ w', Grew W w' → w'.cell? ⟨w.heap.size, 1, none⟩ = some (.int .i64 p.kind) ∧ w'.cell? ⟨w.heap.size, 11, none⟩ = some (.slice pm.sA p.sites.length pm.sc) ∧ w'.cell? ⟨w.heap.size + 1, 1, none⟩ = some (.int .i64 q.kind) ∧ w'.cell? ⟨w.heap.size + 1, 11, none⟩ = some (.slice qm.sA q.sites.length qm.sc) ∧ Grew W w') :=
      fun w' h => ⟨(h.below.cell (p := ⟨w.heap.size, 1, none⟩) hz0).trans q1, (h.below.cell (p := ⟨w.heap.size, 11, none⟩) hz0).trans q11, (h.below.cell (p := ⟨w.heap.size + 1, 1, none⟩) hz1).trans r1, (h.below.cell (p := ⟨w.heap.size + 1, 11, none⟩) hz1).trans r11, h⟩
    have HI1 := Lib.hid (HOI.out.1.keep HG.out.below)
    have HI2 := Lib.hid (HOJ.out.1.keep HG.out.below)
    clear hG B0 B1 q1 q11 r1 r11
    go_region_held3 (fun w' => w'.cell? ⟨w.heap.size, 1, none⟩ = some (.int .i64 p.kind) ∧ w'.cell? ⟨w.heap.size, 11, none⟩ = some (.slice pm.sA p.sites.length pm.sc) ∧ w'.cell? ⟨w.heap.size + 1, 1, none⟩ = some (.int .i64 q.kind) ∧ w'.cell? ⟨w.heap.size + 1, 11, none⟩ = some (.slice qm.sA q.sites.length qm.sc) ∧ Grew W w') (first | assumption | exact HSOF.out _ (Grew.refl _).drew | exact HSOF.out _ ((Grew.refl _).alloc _).drew) (first
      | (go_at_call 39; refine (Tryd.cmp_Compare_int _ _ _).mono ?_; rintro e w3 ⟨rfl, rfl⟩)
      | (go_at_call 40; refine (scompare_any _ _ _ _ _ (HI1.out.keep (Below.refl _ _).drew) (HI2.out.keep (Below.refl _ _).drew)).mono ?_; rintro e w3 ⟨rfl, rfl⟩)
      | (go_at_call 38; refine (or_any _ _ _ ((cmp2_new W 3 p q).keep (Below.refl _ _).drew)).mono ?_; rintro e w3 ⟨rfl, rfl⟩))
    go_wp2_with fail
    go_ret
    exact ⟨rfl, HG.out.trans ((Grew.refl _).alloc _).drew⟩
  · go_wp2_with fail
    have B0 := ((Blk.new w 58 #[.int .i64 q.start, .int .i64 q.kind, .int .i64 qm.a, .int .i64 qm.b, .int .i64 qm.c, .int .i64 qm.d, .slice qm.cA qm.cn qm.cc, .bool q.found, .slice qm.wA q.wl qm.wc, .slice qm.pA qm.pn qm.pc, .int .i64 qm.r, .slice qm.sA q.sites.length qm.sc]).alloc (.cells #[.int .i64 p.start, .int .i64 p.kind, .int .i64 pm.a, .int .i64 pm.b, .int .i64 pm.c, .int .i64 pm.d, .slice pm.cA pm.cn pm.cc, .bool p.found, .slice pm.wA p.wl pm.wc, .slice pm.pA pm.pn pm.pc, .int .i64 pm.r, .slice pm.sA p.sites.length pm.sc] 58)).drew
    have B1 := (Blk.new (w.alloc (.cells #[.int .i64 q.start, .int .i64 q.kind, .int .i64 qm.a, .int .i64 qm.b, .int .i64 qm.c, .int .i64 qm.d, .slice qm.cA qm.cn qm.cc, .bool q.found, .slice qm.wA q.wl qm.wc, .slice qm.pA qm.pn qm.pc, .int .i64 qm.r, .slice qm.sA q.sites.length qm.sc] 58)) 58 #[.int .i64 p.start, .int .i64 p.kind, .int .i64 pm.a, .int .i64 pm.b, .int .i64 pm.c, .int .i64 pm.d, .slice pm.cA pm.cn pm.cc, .bool p.found, .slice pm.wA p.wl pm.wc, .slice pm.pA pm.pn pm.pc, .int .i64 pm.r, .slice pm.sA p.sites.length pm.sc]).drew
    simp only [World.size_alloc] at B1
    have hG : Grew w (((w.alloc (.cells #[.int .i64 q.start, .int .i64 q.kind, .int .i64 qm.a, .int .i64 qm.b, .int .i64 qm.c, .int .i64 qm.d, .slice qm.cA qm.cn qm.cc, .bool q.found, .slice qm.wA q.wl qm.wc, .slice qm.pA qm.pn qm.pc, .int .i64 qm.r, .slice qm.sA q.sites.length qm.sc] 58)).alloc (.cells #[.int .i64 p.start, .int .i64 p.kind, .int .i64 pm.a, .int .i64 pm.b, .int .i64 pm.c, .int .i64 pm.d, .slice pm.cA pm.cn pm.cc, .bool p.found, .slice pm.wA p.wl pm.wc, .slice pm.pA pm.pn pm.pc, .int .i64 pm.r, .slice pm.sA p.sites.length pm.sc] 58)).drew) := (((Grew.refl _).alloc _).alloc _).drew
    generalize ((w.alloc (.cells #[.int .i64 q.start, .int .i64 q.kind, .int .i64 qm.a, .int .i64 qm.b, .int .i64 qm.c, .int .i64 qm.d, .slice qm.cA qm.cn qm.cc, .bool q.found, .slice qm.wA q.wl qm.wc, .slice qm.pA qm.pn qm.pc, .int .i64 qm.r, .slice qm.sA q.sites.length qm.sc] 58)).alloc (.cells #[.int .i64 p.start, .int .i64 p.kind, .int .i64 pm.a, .int .i64 pm.b, .int .i64 pm.c, .int .i64 pm.d, .slice pm.cA pm.cn pm.cc, .bool p.found, .slice pm.wA p.wl pm.wc, .slice pm.pA pm.pn pm.pc, .int .i64 pm.r, .slice pm.sA p.sites.length pm.sc] 58)).drew = W at *
    have HG := Lib.hid hG
    have q1 := B1.cell 1
    have q11 := B1.cell 11
    have r1 := B0.cell 1
    have r11 := B0.cell 11
    simp only [List.getElem?_toArray, List.getElem?_cons_zero, List.getElem?_cons_succ] at q1 q11 r1 r11
    have hz0 := B1.lt
    have hz1 := B0.lt
    have HSOF : Hid (∀ w', Grew W w' → w'.cell? ⟨w.heap.size + 1, 1, none⟩ = some (.int .i64 p.kind) ∧ w'.cell? ⟨w.heap.size + 1, 11, none⟩ = some (.slice pm.sA p.sites.length pm.sc) ∧ w'.cell? ⟨w.heap.size, 1, none⟩ = some (.int .i64 q.kind) ∧ w'.cell? ⟨w.heap.size, 11, none⟩ = some (.slice qm.sA q.sites.length qm.sc) ∧ Grew W w') :=
      fun w' h => ⟨(h.below.cell (p := ⟨w.heap.size + 1, 1, none⟩) hz0).trans q1, (h.below.cell (p := ⟨w.heap.size + 1, 11, none⟩) hz0).trans q11, (h.below.cell (p := ⟨w.heap.size, 1, none⟩) hz1).trans r1, (h.below.cell (p := ⟨w.heap.size, 11, none⟩) hz1).trans r11, h⟩
    have HI1 := Lib.hid (HOI.out.1.keep HG.out.below)
    have HI2 := Lib.hid (HOJ.out.1.keep HG.out.below)
    clear hG B0 B1 q1 q11 r1 r11
    go_region_held3 (fun w' => w'.cell? ⟨w.heap.size + 1, 1, none⟩ = some (.int .i64 p.kind) ∧ w'.cell? ⟨w.heap.size + 1, 11, none⟩ = some (.slice pm.sA p.sites.length pm.sc) ∧ w'.cell? ⟨w.heap.size, 1, none⟩ = some (.int .i64 q.kind) ∧ w'.cell? ⟨w.heap.size, 11, none⟩ = some (.slice qm.sA q.sites.length qm.sc) ∧ Grew W w') (first | assumption | exact HSOF.out _ (Grew.refl _).drew | exact HSOF.out _ ((Grew.refl _).alloc _).drew) (first
      | (go_at_call 39; refine (Tryd.cmp_Compare_int _ _ _).mono ?_; rintro e w3 ⟨rfl, rfl⟩)
      | (go_at_call 40; refine (scompare_any _ _ _ _ _ (HI1.out.keep (Below.refl _ _).drew) (HI2.out.keep (Below.refl _ _).drew)).mono ?_; rintro e w3 ⟨rfl, rfl⟩)
      | (go_at_call 38; refine (or_any _ _ _ ((cmp2_new W 3 p q).keep (Below.refl _ _).drew)).mono ?_; rintro e w3 ⟨rfl, rfl⟩))
    go_wp2_with fail
    go_ret
    exact ⟨rfl, HG.out.trans ((Grew.refl _).alloc _).drew⟩
end Go.Proofs.YtccpelfnkjckiaaDoor
