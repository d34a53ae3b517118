/-
  WALK: interleaveref07.SameInts, interleaveref09.SameEvent and SameEvents, each at equal arguments.
-/
import Derived.Test.YtmnjmegejaejlaaDoorTT16
import Derived.Deep.RegionHeld3
import Derived.Deep.QuietTactic
import Derived.BigQuiet
namespace Go.Proofs.YtmnjmegejaejlaaDoor
open Go.RowKit

theorem flat_getT {α β : Type} {xs : List α} {g : α → List β} {m : Nat} (hg : ∀ a, (g a).length = m) {k r : Nat} {a : α} (h : xs[k]? = some a) (hr : r < m) : (xs.flatMap g)[k * m + r]? = (g a)[r]? := by
  induction xs generalizing k with
  | nil => simp at h
  | cons x t ih =>
    cases k with
    | zero => simp at h; subst h; rw [List.flatMap_cons, Nat.zero_mul, Nat.zero_add, List.getElem?_append_left (by rw [hg]; exact hr)]
    | succ k =>
      rw [List.flatMap_cons, List.getElem?_append_right (by rw [hg, Nat.succ_mul]; omega), hg, show (k + 1) * m + r - m = k * m + r by rw [Nat.succ_mul]; omega]
      exact ih (by simpa using h)
theorem Rd.flat {w : World} {A : Option Addr} {α : Type} {xs : List α} {g : α → List Value} {m : Nat} (hg : ∀ a, (g a).length = m) (hm : 0 < m) (h : Rd w A (xs.flatMap g)) {k : Nat} {a : α} (hk : xs[k]? = some a) :
    ∃ b off, A = some ⟨b, off, none⟩ ∧ b < w.heap.size ∧ ∀ r u, (g a)[r]? = some u → w.cell? ⟨b, off + k * m + r, none⟩ = some u := by
  have h0 : (xs.flatMap g)[k * m + 0]? = (g a)[0]? := flat_getT hg hk hm
  have h1 : (g a)[0]? = some ((g a)[0]'(by rw [hg]; exact hm)) := List.getElem?_eq_getElem _
  obtain ⟨b, off, hA, hlt, hc⟩ := h (by have := (List.getElem?_eq_some_iff.1 (h0.trans h1)).1; omega)
  refine ⟨b, off, hA, hlt, fun r u hu => ?_⟩
  rw [Nat.add_assoc]
  exact hc _ _ ((flat_getT hg hk (by have := (List.getElem?_eq_some_iff.1 hu).1; rw [hg] at this; exact this)).trans hu)
set_option maxRecDepth 100000 in
set_option maxHeartbeats 2000000 in
theorem sints_same (a b : Value) (xs : List Int) (w : World) (ha : Ints w a xs) (hb : Ints w b xs) :
    Calls Tryd.prog 60 #[a, b] w fun e w' => e = .returned (.bool true) ∧ ∃ n, w' = w.drewN n := by
  obtain ⟨A, c, rfl, hl, hm, hx, hr⟩ := ha
  obtain ⟨A', c', rfl, hl', hm', hx', hr'⟩ := hb
  unfold maxLen at hm hm'
  have HR := Lib.hid hr
  have HR' := Lib.hid hr'
  clear hx hx' hr hr'
  go_enter Tryd.func60, Tryd.ntmps60
  go_wp2_with fail
  go_loopw [5] (fun i wr => ∃ k n, k ≤ xs.length ∧ i = .int .i64 (k : Nat) ∧ wr = w.drewN n) (fun i _ => xs.length - (intOf i).toNat)
  case atStart => exact ⟨0, 0, by omega, rfl, rfl⟩
  case round =>
    obtain ⟨k, n, hk, rfl, rfl⟩ := hrel
    by_cases hlt : k < xs.length
    · obtain ⟨x, hxk⟩ : ∃ x, xs[k]? = some x := ⟨_, List.getElem?_eq_getElem hlt⟩
      obtain ⟨b1, o1, rfl, hb1, hc1⟩ := HR.out.int hxk
      obtain ⟨b2, o2, rfl, hb2, hc2⟩ := HR'.out.int hxk
      have d0 : (x != x) = false := by simp
      clear hxk
      go_wp2_with fail
      go_quiet (fail)
      go_wp2_with fail
      go_roundw
      case rel => exact ⟨k + 1, _, by omega, by go_num, rfl⟩
      case measure => simp [intOf]; omega
    · go_wp2_with fail
      go_ret
      exact ⟨rfl, _, rfl⟩
set_option maxRecDepth 100000 in
set_option maxHeartbeats 4000000 in
theorem sevent_same (x : Evn) (A1 A2 A3 A4 : Option Addr) (c1 c2 c3 c4 : Nat) (w : World) (h1 : Ints w (.slice A1 x.deps.length c1) x.deps) (h2 : Ints w (.slice A2 x.frm.length c2) x.frm) (h3 : Ints w (.slice A3 x.deps.length c3) x.deps) (h4 : Ints w (.slice A4 x.frm.length c4) x.frm) :
    Calls Tryd.prog 39 #[.agg #[.int .i64 x.thread, .int .i64 x.kind, .int .i64 x.obj, .int .i64 x.value, .int .i64 x.site, .slice A1 x.deps.length c1, .slice A2 x.frm.length c2], .agg #[.int .i64 x.thread, .int .i64 x.kind, .int .i64 x.obj, .int .i64 x.value, .int .i64 x.site, .slice A3 x.deps.length c3, .slice A4 x.frm.length c4]] w fun e w' => e = .returned (.bool true) ∧ Below w.heap.size w w' := by
  have hz1 := Blk.new w 53 #[.int .i64 x.thread, .int .i64 x.kind, .int .i64 x.obj, .int .i64 x.value, .int .i64 x.site, .slice A1 x.deps.length c1, .slice A2 x.frm.length c2]
  have hz2 := hz1.alloc (.cells #[.int .i64 x.thread, .int .i64 x.kind, .int .i64 x.obj, .int .i64 x.value, .int .i64 x.site, .slice A3 x.deps.length c3, .slice A4 x.frm.length c4] 53)
  have ht := Blk.new (w.alloc (.cells #[.int .i64 x.thread, .int .i64 x.kind, .int .i64 x.obj, .int .i64 x.value, .int .i64 x.site, .slice A1 x.deps.length c1, .slice A2 x.frm.length c2] 53)) 53 #[.int .i64 x.thread, .int .i64 x.kind, .int .i64 x.obj, .int .i64 x.value, .int .i64 x.site, .slice A3 x.deps.length c3, .slice A4 x.frm.length c4]
  rw [show ∀ (a : World) (o : Obj), (a.alloc o).heap.size = a.heap.size + 1 from fun a o => by simp] at ht
  have hb2 : Below w.heap.size w ((w.alloc (.cells #[.int .i64 x.thread, .int .i64 x.kind, .int .i64 x.obj, .int .i64 x.value, .int .i64 x.site, .slice A1 x.deps.length c1, .slice A2 x.frm.length c2] 53)).alloc (.cells #[.int .i64 x.thread, .int .i64 x.kind, .int .i64 x.obj, .int .i64 x.value, .int .i64 x.site, .slice A3 x.deps.length c3, .slice A4 x.frm.length c4] 53)) := by go_grown
  have HB2 := Lib.hid hb2
  have HZ := Lib.hid hz2
  have HT := Lib.hid ht
  have HI1 := Lib.hid (h1.keep hb2)
  have HI2 := Lib.hid (h2.keep hb2)
  have HI3 := Lib.hid (h3.keep hb2)
  have HI4 := Lib.hid (h4.keep hb2)
  clear hz1 hz2 ht hb2 h1 h2 h3 h4
  go_enter Tryd.func39, Tryd.ntmps39
  go_upto_region 1 with fail
  generalize (w.alloc (.cells #[.int .i64 x.thread, .int .i64 x.kind, .int .i64 x.obj, .int .i64 x.value, .int .i64 x.site, .slice A1 x.deps.length c1, .slice A2 x.frm.length c2] 53)).alloc (.cells #[.int .i64 x.thread, .int .i64 x.kind, .int .i64 x.obj, .int .i64 x.value, .int .i64 x.site, .slice A3 x.deps.length c3, .slice A4 x.frm.length c4] 53) = W at *
  have p0 := HZ.out.cell 0
  have p1 := HZ.out.cell 1
  have p2 := HZ.out.cell 2
  have p3 := HZ.out.cell 3
  have p4 := HZ.out.cell 4
  have p5 := HZ.out.cell 5
  have p6 := HZ.out.cell 6
  have q0 := HT.out.cell 0
  have q1 := HT.out.cell 1
  have q2 := HT.out.cell 2
  have q3 := HT.out.cell 3
  have q4 := HT.out.cell 4
  have q5 := HT.out.cell 5
  have q6 := HT.out.cell 6
  simp only [List.getElem?_toArray, List.getElem?_cons_zero, List.getElem?_cons_succ] at p0 q0 p1 q1 p2 q2 p3 q3 p4 q4 p5 q5 p6 q6
  have d_thread : (x.thread == x.thread) = true := by simp
  have d_kind : (x.kind == x.kind) = true := by simp
  have d_obj : (x.obj == x.obj) = true := by simp
  have d_value : (x.value == x.value) = true := by simp
  have d_site : (x.site == x.site) = true := by simp
  go_wp2_with fail
  refine (sints_same _ _ x.deps _ HI1.out HI3.out).mono ?_
  rintro e w1 ⟨rfl, n, rfl⟩
  go_wp2_with fail
  refine (sints_same _ _ x.frm _ (HI2.out.keep (bdrew (Below.refl _ _) n)) (HI4.out.keep (bdrew (Below.refl _ _) n))).mono ?_
  rintro e w1 ⟨rfl, m, rfl⟩
  go_wp2_with fail
  go_ret
  exact ⟨rfl, bdrew HB2.out _⟩
set_option maxRecDepth 100000 in
set_option maxHeartbeats 8000000 in
theorem sevents_same (A B : Option Addr) (c d : Nat) (l : List Evn) (ds es : List (Value × Value)) (w : World) (hl : l.length ≤ c) (hm : c ≤ maxLen) (_hl : l.length ≤ d) (_hm : d ≤ maxLen) (hd : ds.length = l.length) (he : es.length = l.length)
    (hr : Rd w A ((l.zip ds).flatMap evC)) (hr' : Rd w B ((l.zip es).flatMap evC))
    (hi : ∀ (k : Nat) (e : Evn) (d : Value × Value), l[k]? = some e → ds[k]? = some d → Ints w d.1 e.deps ∧ Ints w d.2 e.frm) (hi' : ∀ (k : Nat) (e : Evn) (d : Value × Value), l[k]? = some e → es[k]? = some d → Ints w d.1 e.deps ∧ Ints w d.2 e.frm) :
    Calls Tryd.prog 21 #[.slice A l.length c, .slice B l.length d] w fun e w' => e = .returned (.bool true) ∧ Below w.heap.size w w' := by
  unfold maxLen at hm
  have HR := Lib.hid hr
  have HR' := Lib.hid hr'
  have HI := Lib.hid hi
  have HI' := Lib.hid hi'
  have HD := Lib.hid hd
  have HE := Lib.hid he
  clear hr hr' hi hi' hd he
  go_enter Tryd.func21, Tryd.ntmps21
  go_wp2_with fail
  go_loopw [5] (fun i wr => ∃ k : Nat, k ≤ l.length ∧ i = .int .i64 (k : Nat) ∧ Hid (Below w.heap.size w wr)) (fun i _ => l.length - (intOf i).toNat)
  case atStart => exact ⟨0, by omega, rfl, Lib.hid (Below.refl _ _)⟩
  case round =>
    obtain ⟨k, hk, rfl, HB⟩ := hrel
    by_cases hlt : k < l.length
    · obtain ⟨x, hx⟩ : ∃ x, l[k]? = some x := ⟨_, List.getElem?_eq_getElem hlt⟩
      obtain ⟨⟨d1, d2⟩, hd⟩ : ∃ x, ds[k]? = some x := ⟨_, List.getElem?_eq_getElem (by have := HD.out; omega)⟩
      obtain ⟨⟨e1, e2⟩, he⟩ : ∃ x, es[k]? = some x := ⟨_, List.getElem?_eq_getElem (by have := HE.out; omega)⟩
      obtain ⟨j1, j2⟩ := HI.out k x _ hx hd
      obtain ⟨j3, j4⟩ := HI'.out k x _ hx he
      have z1 : (l.zip ds)[k]? = some (x, d1, d2) := by rw [List.getElem?_zip_eq_some]; exact ⟨hx, hd⟩
      have z2 : (l.zip es)[k]? = some (x, e1, e2) := by rw [List.getElem?_zip_eq_some]; exact ⟨hx, he⟩
      obtain ⟨b1, o1, rfl, hb1, g1⟩ := (HR.out.keep HB.out).flat (g := evC) (m := 7) (fun _ => rfl) (by omega) z1
      obtain ⟨b2, o2, rfl, hb2, g2⟩ := (HR'.out.keep HB.out).flat (g := evC) (m := 7) (fun _ => rfl) (by omega) z2
      obtain ⟨A1, c1, t1, -⟩ := id j1
      obtain ⟨A2, c2, t2, -⟩ := id j2
      obtain ⟨A3, c3, t3, -⟩ := id j3
      obtain ⟨A4, c4, t4, -⟩ := id j4
      simp only at t1 t2 t3 t4
      subst t1 t2 t3 t4
      have HC : Hid (∀ W', Below wr.heap.size wr W' → W'.cell? ⟨b1, o1 + k * 7, none⟩ = some (.int .i64 x.thread) ∧ W'.cell? ⟨b1, o1 + k * 7 + 1, none⟩ = some (.int .i64 x.kind) ∧ W'.cell? ⟨b1, o1 + k * 7 + 2, none⟩ = some (.int .i64 x.obj) ∧ W'.cell? ⟨b1, o1 + k * 7 + 3, none⟩ = some (.int .i64 x.value) ∧ W'.cell? ⟨b1, o1 + k * 7 + 4, none⟩ = some (.int .i64 x.site) ∧ W'.cell? ⟨b1, o1 + k * 7 + 5, none⟩ = some (.slice A1 x.deps.length c1) ∧ W'.cell? ⟨b1, o1 + k * 7 + 6, none⟩ = some (.slice A2 x.frm.length c2) ∧ W'.cell? ⟨b2, o2 + k * 7, none⟩ = some (.int .i64 x.thread) ∧ W'.cell? ⟨b2, o2 + k * 7 + 1, none⟩ = some (.int .i64 x.kind) ∧ W'.cell? ⟨b2, o2 + k * 7 + 2, none⟩ = some (.int .i64 x.obj) ∧ W'.cell? ⟨b2, o2 + k * 7 + 3, none⟩ = some (.int .i64 x.value) ∧ W'.cell? ⟨b2, o2 + k * 7 + 4, none⟩ = some (.int .i64 x.site) ∧ W'.cell? ⟨b2, o2 + k * 7 + 5, none⟩ = some (.slice A3 x.deps.length c3) ∧ W'.cell? ⟨b2, o2 + k * 7 + 6, none⟩ = some (.slice A4 x.frm.length c4)) := Lib.hid (fun W' h => ⟨(h.cell (p := ⟨b1, o1 + k * 7, none⟩) hb1).trans (g1 0 _ rfl), (h.cell (p := ⟨b1, o1 + k * 7 + 1, none⟩) hb1).trans (g1 1 _ rfl), (h.cell (p := ⟨b1, o1 + k * 7 + 2, none⟩) hb1).trans (g1 2 _ rfl), (h.cell (p := ⟨b1, o1 + k * 7 + 3, none⟩) hb1).trans (g1 3 _ rfl), (h.cell (p := ⟨b1, o1 + k * 7 + 4, none⟩) hb1).trans (g1 4 _ rfl), (h.cell (p := ⟨b1, o1 + k * 7 + 5, none⟩) hb1).trans (g1 5 _ rfl), (h.cell (p := ⟨b1, o1 + k * 7 + 6, none⟩) hb1).trans (g1 6 _ rfl), (h.cell (p := ⟨b2, o2 + k * 7, none⟩) hb2).trans (g2 0 _ rfl), (h.cell (p := ⟨b2, o2 + k * 7 + 1, none⟩) hb2).trans (g2 1 _ rfl), (h.cell (p := ⟨b2, o2 + k * 7 + 2, none⟩) hb2).trans (g2 2 _ rfl), (h.cell (p := ⟨b2, o2 + k * 7 + 3, none⟩) hb2).trans (g2 3 _ rfl), (h.cell (p := ⟨b2, o2 + k * 7 + 4, none⟩) hb2).trans (g2 4 _ rfl), (h.cell (p := ⟨b2, o2 + k * 7 + 5, none⟩) hb2).trans (g2 5 _ rfl), (h.cell (p := ⟨b2, o2 + k * 7 + 6, none⟩) hb2).trans (g2 6 _ rfl)⟩)
      have HS : Hid (∀ W', Below wr.heap.size wr W' → Calls Tryd.prog 39 #[.agg #[.int .i64 x.thread, .int .i64 x.kind, .int .i64 x.obj, .int .i64 x.value, .int .i64 x.site, .slice A1 x.deps.length c1, .slice A2 x.frm.length c2], .agg #[.int .i64 x.thread, .int .i64 x.kind, .int .i64 x.obj, .int .i64 x.value, .int .i64 x.site, .slice A3 x.deps.length c3, .slice A4 x.frm.length c4]] W' fun e w' => e = .returned (.bool true) ∧ Below W'.heap.size W' w') := Lib.hid (fun W' h => sevent_same x A1 A2 A3 A4 c1 c2 c3 c4 W' (j1.keep (HB.out.trans (h.mono HB.out.size))) (j2.keep (HB.out.trans (h.mono HB.out.size))) (j3.keep (HB.out.trans (h.mono HB.out.size))) (j4.keep (HB.out.trans (h.mono HB.out.size))))
      have hs := HC.out _ (Below.refl wr.heap.size wr).drew
      have lk : (k : Int) < (l.length : Int) := by omega
      have lk0 : (0 : Int) ≤ (k : Int) := by omega
      clear hx hd he j1 j2 j3 j4 z1 z2 g1 g2 hb1 hb2
      go_upto_region 6 with fail
      go_region_held3 (fun W' => W'.cell? ⟨b1, o1 + k * 7, none⟩ = some (.int .i64 x.thread) ∧ W'.cell? ⟨b1, o1 + k * 7 + 1, none⟩ = some (.int .i64 x.kind) ∧ W'.cell? ⟨b1, o1 + k * 7 + 2, none⟩ = some (.int .i64 x.obj) ∧ W'.cell? ⟨b1, o1 + k * 7 + 3, none⟩ = some (.int .i64 x.value) ∧ W'.cell? ⟨b1, o1 + k * 7 + 4, none⟩ = some (.int .i64 x.site) ∧ W'.cell? ⟨b1, o1 + k * 7 + 5, none⟩ = some (.slice A1 x.deps.length c1) ∧ W'.cell? ⟨b1, o1 + k * 7 + 6, none⟩ = some (.slice A2 x.frm.length c2) ∧ W'.cell? ⟨b2, o2 + k * 7, none⟩ = some (.int .i64 x.thread) ∧ W'.cell? ⟨b2, o2 + k * 7 + 1, none⟩ = some (.int .i64 x.kind) ∧ W'.cell? ⟨b2, o2 + k * 7 + 2, none⟩ = some (.int .i64 x.obj) ∧ W'.cell? ⟨b2, o2 + k * 7 + 3, none⟩ = some (.int .i64 x.value) ∧ W'.cell? ⟨b2, o2 + k * 7 + 4, none⟩ = some (.int .i64 x.site) ∧ W'.cell? ⟨b2, o2 + k * 7 + 5, none⟩ = some (.slice A3 x.deps.length c3) ∧ W'.cell? ⟨b2, o2 + k * 7 + 6, none⟩ = some (.slice A4 x.frm.length c4)) (with_reducible assumption) (first
        | (go_at_call 39; refine (HS.out _ (Below.refl wr.heap.size wr).drew).mono ?_; rintro e w5 ⟨rfl, hb5⟩; have hs5 := HC.out w5 (Below.trans (Below.refl wr.heap.size wr).drew (show Below wr.heap.size wr.drew w5 from hb5))))
      have HB5 : Hid (Below w.heap.size w w5) := Lib.hid (HB.out.trans ((Below.trans (Below.refl wr.heap.size wr).drew (show Below wr.heap.size wr.drew w5 from hb5)).mono HB.out.size))
      clear hs hs5 hb5 HS HC
      go_wp2_with fail
      go_roundw
      case rel => exact ⟨k + 1, by omega, by go_num, HB5⟩
      case measure => simp [intOf]; omega
    · go_wp2_with fail
      go_ret
      exact ⟨rfl, HB.out⟩
end Go.Proofs.YtmnjmegejaejlaaDoor
