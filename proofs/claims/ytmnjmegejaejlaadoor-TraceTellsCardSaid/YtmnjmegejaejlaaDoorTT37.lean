/-
  PLAIN LAW: how long the text of a trace is.
  WALKS: interleaveref16.kinds, kindOf; interleaveref01.Letter, Digit, inner, Keywords, IsKeyword, IsName.
-/
import Derived.Test.YtmnjmegejaejlaaDoorTT33
import Derived.Test.YtmnjmegejaejlaaDoorTT31
import Derived.Test.YtmnjmegejaejlaaDoorTT13
namespace Go.Proofs.YtmnjmegejaejlaaDoor
open Go.RowKit

def Item.nums : Item → Nat
  | .event e => e.deps.length + e.frm.length
  | _ => 0
theorem tailS_map (l : List Int) : tailS (l.map Lib.itoa) = numsText l := by
  unfold tailS numsText
  induction l with
  | nil => rfl
  | cons x r ih => rw [List.map_cons, List.flatMap_cons, List.flatMap_cons, ih]
theorem numsP_text (w : List UInt8) (l : List Int) (hw : w.length = 4) (h : ∀ x ∈ l, I64 x) : (tailS (numsP w l)).length ≤ 5 + 22 * l.length := by
  unfold numsP
  split
  · simp [tailS]
  · rw [tailS_cons, tailS_map]
    have := numsText_len l h
    simp only [List.length_append, List.length_cons]; omega
theorem nameB_len {n : List UInt8} (h : nameB n = true) : n.length ≤ 12 := by
  unfold nameB at h
  cases n with
  | nil => simp
  | cons c r =>
    simp only [Bool.and_eq_true, decide_eq_true_eq] at h
    exact h.1.1.1
theorem kind_len {k : Int} (h : 1 ≤ k ∧ k ≤ 23) : (kindW k).length ≤ 12 := by
  have hm := (kind_all h).2.2.2
  have key : ∀ s ∈ kindsL, s.length ≤ 12 := by decide
  exact key _ hm
theorem lineT_len (it : Item) (h : it.ok) (hp : it.prt) : (lineT it).length ≤ 200 + 22 * it.nums := by
  cases it with
  | cell c =>
    obtain ⟨h1, h2, h3⟩ := h
    have q0 := nameB_len (show nameB c.name = true from hp)
    have q1 := itoa_len _ h1
    have q2 := itoa_len _ h2
    have q3 := itoa_len _ h3
    have q4 : (Item.cell c).head.length ≤ 8 := by show (if c.vol then wVol else wCell).length ≤ 8; split <;> simp [wVol, wCell]
    simp only [lineT, Item.args, tailS, List.flatMap_cons, List.flatMap_nil, List.length_append, List.length_cons, List.length_nil, Item.nums] at q4 ⊢; omega
  | lock c =>
    have q0 := nameB_len (show nameB c.name = true from hp)
    have q4 : (Item.lock c).head.length ≤ 8 := by show (if c.rw then wRw else wMutex).length ≤ 8; split <;> simp [wRw, wMutex]
    simp only [lineT, Item.args, tailS, List.flatMap_cons, List.flatMap_nil, List.length_append, List.length_cons, List.length_nil, Item.nums] at q4 ⊢; omega
  | cond c =>
    have q0 := nameB_len (show nameB c.name = true from hp)
    have q1 := itoa_len _ (show I64 c.mutex from h)
    simp only [lineT, Item.head, wCond, Item.args, tailS, List.flatMap_cons, List.flatMap_nil, List.length_append, List.length_cons, List.length_nil, Item.nums]; omega
  | fut n =>
    have q0 := nameB_len (show nameB n = true from hp)
    simp only [lineT, Item.head, wFut, Item.args, tailS, List.flatMap_cons, List.flatMap_nil, List.length_append, List.length_cons, List.length_nil, Item.nums]; omega
  | thr n =>
    have q0 := nameB_len (show nameB n = true from hp)
    simp only [lineT, Item.head, wThr, Item.args, tailS, List.flatMap_cons, List.flatMap_nil, List.length_append, List.length_cons, List.length_nil, Item.nums]; omega
  | site s =>
    obtain ⟨h1, h2, h3⟩ := h
    have q1 := itoa_len _ h1
    have q2 := itoa_len _ h2
    have q3 := itoa_len _ h3
    simp only [lineT, Item.head, wSite, Item.args, tailS, List.flatMap_cons, List.flatMap_nil, List.length_append, List.length_cons, List.length_nil, Item.nums]; omega
  | event e =>
    obtain ⟨h1, h2, h3, h4, h5⟩ := h
    obtain ⟨hk, hd, hf⟩ := hp
    have q1 := itoa_len _ h1
    have q3 := itoa_len _ h3
    have q4 := itoa_len _ h4
    have q5 := itoa_len _ h5
    have q2 := kind_len hk
    have q6 := numsP_text wDeps e.deps rfl hd
    have q7 := numsP_text wFrom e.frm rfl hf
    show (wEvent ++ tailS ([Lib.itoa e.thread, kindW e.kind, Lib.itoa e.obj, Lib.itoa e.value, Lib.itoa e.site] ++ (numsP wDeps e.deps ++ numsP wFrom e.frm)) ++ [10]).length ≤ 200 + 22 * (e.deps.length + e.frm.length)
    rw [tailS_append, tailS_append]
    generalize tailS (numsP wDeps e.deps) = x1 at *
    generalize tailS (numsP wFrom e.frm) = x2 at *
    simp only [wEvent, tailS, List.flatMap_cons, List.flatMap_nil, List.length_append, List.length_cons, List.length_nil]; omega
theorem items_len (l : List Item) (h : ∀ it ∈ l, it.ok ∧ it.prt) : (l.flatMap lineT).length ≤ 200 * l.length + 22 * (l.map Item.nums).sum := by
  induction l with
  | nil => simp
  | cons x r ih =>
    have h1 := lineT_len x (h x (by simp)).1 (h x (by simp)).2
    have h2 := ih fun y hy => h y (by simp [hy])
    rw [List.flatMap_cons, List.length_append, List.map_cons, List.sum_cons, List.length_cons]; omega
theorem sum_zero {α : Type} (l : List α) (f : α → Item) (hf : ∀ a, (f a).nums = 0) : ((l.map f).map Item.nums).sum = 0 := by
  induction l with
  | nil => rfl
  | cons x r ih => rw [List.map_cons, List.map_cons, List.sum_cons, ih, hf]
theorem sum_ev (l : List Evn) : ((l.map Item.event).map Item.nums).sum = sumL l := by
  unfold sumL
  induction l with
  | nil => rfl
  | cons x r ih => rw [List.map_cons, List.map_cons, List.sum_cons, ih, List.map_cons, List.sum_cons]; rfl
theorem textT_len (t : Trc) (h : ∀ it ∈ t.items, it.ok ∧ it.prt) (hs : Small t) : (textT t).length ≤ 100000 := by
  have h1 := items_len t.items h
  have h2 : t.items.length = t.cells.length + t.locks.length + t.conds.length + t.futs.length + t.thrs.length + t.sites.length + t.events.length := by
    unfold Trc.items; simp only [List.length_append, List.length_map]; omega
  have h3 : (t.items.map Item.nums).sum = sumL t.events := by
    unfold Trc.items
    simp only [List.map_append, List.sum_append]
    rw [sum_zero t.cells Item.cell (fun _ => rfl), sum_zero t.locks Item.lock (fun _ => rfl), sum_zero t.conds Item.cond (fun _ => rfl), sum_zero t.futs Item.fut (fun _ => rfl), sum_zero t.thrs Item.thr (fun _ => rfl), sum_zero t.sites Item.site (fun _ => rfl), sum_ev]
    omega
  unfold Small at hs
  unfold textT
  omega
theorem trcP_small {t : Trc} (h : Small t) : Small (trcP t) := by
  unfold Small at *
  have e : sumL (trcP t).events = sumL t.events := by
    show sumL (t.events.map evnP) = _
    unfold sumL
    rw [List.map_map]
    rfl
  rw [e]
  simpa [trcP] using h
theorem isTrc_i64 {w : World} {vv : Value} {t : Trc} (h : IsTrc w vv t) : t.ok ∧ ∀ e ∈ t.events, (∀ x ∈ e.deps, I64 x) ∧ ∀ x ∈ e.frm, I64 x := by
  obtain ⟨v, ds, -, -, hdl, hev, hok⟩ := h
  refine ⟨hok, fun e he => ?_⟩
  obtain ⟨k, hk, rfl⟩ := List.getElem_of_mem he
  obtain ⟨h1, h2⟩ := hev k _ (ds[k]'(by omega)) (List.getElem?_eq_getElem hk) (List.getElem?_eq_getElem (by omega))
  obtain ⟨_, _, _, _, _, h3, _⟩ := h1
  obtain ⟨_, _, _, _, _, h4, _⟩ := h2
  exact ⟨h3, h4⟩
end Go.Proofs.YtmnjmegejaejlaaDoor

namespace Go.Proofs.YtmnjmegejaejlaaDoor
open Go.RowKit

theorem strV_at {l : List (List UInt8)} {j : Nat} {p : List UInt8} (h : l[j]? = some p) : (strV l)[j]? = some (.string ⟨p.toArray⟩) := by unfold strV; rw [List.getElem?_map, h]; rfl
/-- A call that makes a slice of the texts l. -/
def StrsRet (l : List (List UInt8)) (n : Nat) (w : World) (e : Ending) (w' : World) : Prop := e = .returned (.slice (some ⟨w.heap.size, 0, none⟩) n n) ∧ w' = w.alloc (.cells (strV l).toArray 9)
set_option maxRecDepth 100000 in
set_option maxHeartbeats 2000000 in
theorem rkinds_any (w : World) : Calls Tryd.prog 28 #[] w (StrsRet kindsL 23 w) := by
  go_enter Tryd.func28, Tryd.ntmps28
  go_wp2_with fail
  go_ret
  exact ⟨rfl, rfl⟩
set_option maxRecDepth 100000 in
set_option maxHeartbeats 2000000 in
theorem rkeys_any (w : World) : Calls Tryd.prog 67 #[] w (StrsRet keysL 22 w) := by
  go_enter Tryd.func67, Tryd.ntmps67
  go_wp2_with fail
  go_ret
  exact ⟨rfl, rfl⟩
set_option maxRecDepth 100000 in
set_option maxHeartbeats 4000000 in
theorem rkindOf_any (s : List UInt8) (w : World) :
    Calls Tryd.prog 58 #[.string ⟨s.toArray⟩] w fun e w' => e = .returned (.int .i64 (((kindI s).getD 0 : Nat) : Int)) ∧ Below w.heap.size w w' := by
  have HKL : Hid (kindsL.length = 23) := Lib.hid rfl
  go_enter Tryd.func58, Tryd.ntmps58
  go_wp2_with fail
  refine (rkinds_any w).mono ?_
  rintro e w2 ⟨rfl, hw2⟩
  have HBK : Hid (Blk w2 w.heap.size 9 (strV kindsL).toArray) := Lib.hid (by rw [hw2]; exact Blk.new _ _ _)
  have HB2 : Hid (Below w.heap.size w w2) := Lib.hid (by rw [hw2]; exact (Below.refl _ _).alloc (Nat.le_refl _) _)
  have HLT := Lib.hid HBK.out.lt
  clear hw2
  go_wp2_with fail
  go_loopw [4] (fun i wr => ∃ j : Nat, j ≤ 23 ∧ i = .int .i64 (j : Int) ∧ Hid (s ∉ kindsL.take j) ∧ wr = w2) (fun i _ => 23 - (intOf i).toNat)
  case atStart => exact ⟨0, by omega, rfl, Lib.hid (by simp), rfl⟩
  case round =>
    obtain ⟨j, hj, rfl, HNI, rfl⟩ := hrel
    by_cases hj2 : j < 23
    · obtain ⟨p, hp⟩ : ∃ p, kindsL[j]? = some p := ⟨_, List.getElem?_eq_getElem (by have := HKL.out; omega)⟩
      have hc := HBK.out.cell j
      rw [List.getElem?_toArray, strV_at hp] at hc
      have HPJ := Lib.hid hp
      clear hp
      by_cases hsp : p = s
      · have HK : Hid (kindI s = some (j + 1)) := Lib.hid (kindI_at (by rw [← hsp]; exact HPJ.out) HNI.out)
        have q0 : (p == s) = true := by rw [beq_iff_eq]; exact hsp
        clear hsp
        go_wp2_with fail
        go_ret
        exact ⟨by rw [HK.out]; simp, HB2.out⟩
      · have q0 : (p == s) = false := by rw [beq_eq_false_iff_ne]; exact hsp
        have HN2 : Hid (s ∉ kindsL.take (j + 1)) := Lib.hid (contains_take HNI.out HPJ.out (fun e => hsp e.symm))
        clear hsp
        go_wp2_with fail
        go_roundw
        case rel => exact ⟨j + 1, by omega, by go_num, HN2, trivial⟩
        case measure => simp [intOf]; omega
    · obtain rfl : j = 23 := by omega
      have HK : Hid (kindI s = none) := Lib.hid (kindI_none (by
        have h := HNI.out
        rwa [List.take_of_length_le (by rw [HKL.out]; omega)] at h))
      go_wp2_with fail
      go_ret
      exact ⟨by rw [HK.out]; rfl, HB2.out⟩
set_option maxRecDepth 100000 in
set_option maxHeartbeats 4000000 in
theorem rkey_any (s : List UInt8) (w : World) :
    Calls Tryd.prog 46 #[.string ⟨s.toArray⟩] w fun e w' => e = .returned (.bool (keysL.contains s)) ∧ Below w.heap.size w w' := by
  have HKL : Hid (keysL.length = 22) := Lib.hid rfl
  go_enter Tryd.func46, Tryd.ntmps46
  go_wp2_with fail
  refine (rkeys_any w).mono ?_
  rintro e w2 ⟨rfl, hw2⟩
  have HBK : Hid (Blk w2 w.heap.size 9 (strV keysL).toArray) := Lib.hid (by rw [hw2]; exact Blk.new _ _ _)
  have HB2 : Hid (Below w.heap.size w w2) := Lib.hid (by rw [hw2]; exact (Below.refl _ _).alloc (Nat.le_refl _) _)
  have HLT := Lib.hid HBK.out.lt
  clear hw2
  go_wp2_with fail
  go_loopw [4] (fun i wr => ∃ j : Nat, j ≤ 22 ∧ i = .int .i64 (j : Int) ∧ Hid (s ∉ keysL.take j) ∧ wr = w2) (fun i _ => 22 - (intOf i).toNat)
  case atStart => exact ⟨0, by omega, rfl, Lib.hid (by simp), rfl⟩
  case round =>
    obtain ⟨j, hj, rfl, HNI, rfl⟩ := hrel
    by_cases hj2 : j < 22
    · obtain ⟨p, hp⟩ : ∃ p, keysL[j]? = some p := ⟨_, List.getElem?_eq_getElem (by have := HKL.out; omega)⟩
      have hc := HBK.out.cell j
      rw [List.getElem?_toArray, strV_at hp] at hc
      have HPJ := Lib.hid hp
      clear hp
      by_cases hsp : p = s
      · have q0 : (p == s) = true := by rw [beq_iff_eq]; exact hsp
        have HC : Hid (keysL.contains s = true) := Lib.hid (by rw [List.contains_iff_mem, ← hsp]; exact List.mem_of_getElem? HPJ.out)
        clear hsp
        go_wp2_with fail
        go_ret
        exact ⟨by rw [HC.out]; rfl, HB2.out⟩
      · have q0 : (p == s) = false := by rw [beq_eq_false_iff_ne]; exact hsp
        have HN2 : Hid (s ∉ keysL.take (j + 1)) := Lib.hid (contains_take HNI.out HPJ.out (fun e => hsp e.symm))
        clear hsp
        go_wp2_with fail
        go_roundw
        case rel => exact ⟨j + 1, by omega, by go_num, HN2, trivial⟩
        case measure => simp [intOf]; omega
    · obtain rfl : j = 22 := by omega
      have HC : Hid (keysL.contains s = false) := Lib.hid (by
        have h := HNI.out
        rw [List.take_of_length_le (by rw [HKL.out]; omega)] at h
        cases e : keysL.contains s with
        | false => rfl
        | true => rw [List.contains_iff_mem] at e; exact absurd e h)
      go_wp2_with fail
      go_ret
      exact ⟨by rw [HC.out]; rfl, HB2.out⟩
end Go.Proofs.YtmnjmegejaejlaaDoor
