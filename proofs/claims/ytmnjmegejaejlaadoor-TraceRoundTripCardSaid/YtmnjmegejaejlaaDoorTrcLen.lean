/-
  PLAIN LAW: how long the text of a trace is.
-/
import Derived.Test.YtmnjmegejaejlaaDoorPrs
import Derived.Test.YtmnjmegejaejlaaDoorLarge16
namespace Go.Proofs.YtmnjmegejaejlaaDoor
open Go.RowKit

def Item.nums : Item → Nat
  | .event e => e.deps.length + e.frm.length
  | _ => 0
theorem tailS_map (l : List Int) : tailS (l.map Lib.itoa) = numsText l := by
  unfold tailS numsText
  induction l with
  | nil => rfl
  | cons x r ih => rw [List.map_cons, List.flatMap_cons, List.flatMap_cons, ih]
theorem numsP_text (w : List UInt8) (l : List Int) (hw : w.length = 4) (h : ∀ x ∈ l, I64 x) : (tailS (numsP w l)).length ≤ 5 + 22 * l.length := by
  unfold numsP
  split
  · simp [tailS]
  · rw [tailS_cons, tailS_map]
    have := numsText_len l h
    simp only [List.length_append, List.length_cons]; omega
theorem nameB_len {n : List UInt8} (h : nameB n = true) : n.length ≤ 12 := by
  unfold nameB at h
  cases n with
  | nil => simp
  | cons c r =>
    simp only [Bool.and_eq_true, decide_eq_true_eq] at h
    exact h.1.1.1
theorem kind_len {k : Int} (h : 1 ≤ k ∧ k ≤ 23) : (kindW k).length ≤ 12 := by
  have hm := (kind_all h).2.2.2
  have key : ∀ s ∈ kindsL, s.length ≤ 12 := by decide
  exact key _ hm
theorem lineT_len (it : Item) (h : it.ok) (hp : it.prt) : (lineT it).length ≤ 200 + 22 * it.nums := by
  cases it with
  | cell c =>
    obtain ⟨h1, h2, h3⟩ := h
    have q0 := nameB_len (show nameB c.name = true from hp)
    have q1 := itoa_len _ h1
    have q2 := itoa_len _ h2
    have q3 := itoa_len _ h3
    have q4 : (Item.cell c).head.length ≤ 8 := by show (if c.vol then wVol else wCell).length ≤ 8; split <;> simp [wVol, wCell]
    simp only [lineT, Item.args, tailS, List.flatMap_cons, List.flatMap_nil, List.length_append, List.length_cons, List.length_nil, Item.nums] at q4 ⊢; omega
  | lock c =>
    have q0 := nameB_len (show nameB c.name = true from hp)
    have q4 : (Item.lock c).head.length ≤ 8 := by show (if c.rw then wRw else wMutex).length ≤ 8; split <;> simp [wRw, wMutex]
    simp only [lineT, Item.args, tailS, List.flatMap_cons, List.flatMap_nil, List.length_append, List.length_cons, List.length_nil, Item.nums] at q4 ⊢; omega
  | cond c =>
    have q0 := nameB_len (show nameB c.name = true from hp)
    have q1 := itoa_len _ (show I64 c.mutex from h)
    simp only [lineT, Item.head, wCond, Item.args, tailS, List.flatMap_cons, List.flatMap_nil, List.length_append, List.length_cons, List.length_nil, Item.nums]; omega
  | fut n =>
    have q0 := nameB_len (show nameB n = true from hp)
    simp only [lineT, Item.head, wFut, Item.args, tailS, List.flatMap_cons, List.flatMap_nil, List.length_append, List.length_cons, List.length_nil, Item.nums]; omega
  | thr n =>
    have q0 := nameB_len (show nameB n = true from hp)
    simp only [lineT, Item.head, wThr, Item.args, tailS, List.flatMap_cons, List.flatMap_nil, List.length_append, List.length_cons, List.length_nil, Item.nums]; omega
  | site s =>
    obtain ⟨h1, h2, h3⟩ := h
    have q1 := itoa_len _ h1
    have q2 := itoa_len _ h2
    have q3 := itoa_len _ h3
    simp only [lineT, Item.head, wSite, Item.args, tailS, List.flatMap_cons, List.flatMap_nil, List.length_append, List.length_cons, List.length_nil, Item.nums]; omega
  | event e =>
    obtain ⟨h1, h2, h3, h4, h5⟩ := h
    obtain ⟨hk, hd, hf⟩ := hp
    have q1 := itoa_len _ h1
    have q3 := itoa_len _ h3
    have q4 := itoa_len _ h4
    have q5 := itoa_len _ h5
    have q2 := kind_len hk
    have q6 := numsP_text wDeps e.deps rfl hd
    have q7 := numsP_text wFrom e.frm rfl hf
    show (wEvent ++ tailS ([Lib.itoa e.thread, kindW e.kind, Lib.itoa e.obj, Lib.itoa e.value, Lib.itoa e.site] ++ (numsP wDeps e.deps ++ numsP wFrom e.frm)) ++ [10]).length ≤ 200 + 22 * (e.deps.length + e.frm.length)
    rw [tailS_append, tailS_append]
    generalize tailS (numsP wDeps e.deps) = x1 at *
    generalize tailS (numsP wFrom e.frm) = x2 at *
    simp only [wEvent, tailS, List.flatMap_cons, List.flatMap_nil, List.length_append, List.length_cons, List.length_nil]; omega
theorem items_len (l : List Item) (h : ∀ it ∈ l, it.ok ∧ it.prt) : (l.flatMap lineT).length ≤ 200 * l.length + 22 * (l.map Item.nums).sum := by
  induction l with
  | nil => simp
  | cons x r ih =>
    have h1 := lineT_len x (h x (by simp)).1 (h x (by simp)).2
    have h2 := ih fun y hy => h y (by simp [hy])
    rw [List.flatMap_cons, List.length_append, List.map_cons, List.sum_cons, List.length_cons]; omega
theorem sum_zero {α : Type} (l : List α) (f : α → Item) (hf : ∀ a, (f a).nums = 0) : ((l.map f).map Item.nums).sum = 0 := by
  induction l with
  | nil => rfl
  | cons x r ih => rw [List.map_cons, List.map_cons, List.sum_cons, ih, hf]
theorem sum_ev (l : List Evn) : ((l.map Item.event).map Item.nums).sum = sumL l := by
  unfold sumL
  induction l with
  | nil => rfl
  | cons x r ih => rw [List.map_cons, List.map_cons, List.sum_cons, ih, List.map_cons, List.sum_cons]; rfl
theorem textT_len (t : Trc) (h : ∀ it ∈ t.items, it.ok ∧ it.prt) (hs : Small t) : (textT t).length ≤ 100000 := by
  have h1 := items_len t.items h
  have h2 : t.items.length = t.cells.length + t.locks.length + t.conds.length + t.futs.length + t.thrs.length + t.sites.length + t.events.length := by
    unfold Trc.items; simp only [List.length_append, List.length_map]; omega
  have h3 : (t.items.map Item.nums).sum = sumL t.events := by
    unfold Trc.items
    simp only [List.map_append, List.sum_append]
    rw [sum_zero t.cells Item.cell (fun _ => rfl), sum_zero t.locks Item.lock (fun _ => rfl), sum_zero t.conds Item.cond (fun _ => rfl), sum_zero t.futs Item.fut (fun _ => rfl), sum_zero t.thrs Item.thr (fun _ => rfl), sum_zero t.sites Item.site (fun _ => rfl), sum_ev]
    omega
  unfold Small at hs
  unfold textT
  omega
theorem trcP_small {t : Trc} (h : Small t) : Small (trcP t) := by
  unfold Small at *
  have e : sumL (trcP t).events = sumL t.events := by
    show sumL (t.events.map evnP) = _
    unfold sumL
    rw [List.map_map]
    rfl
  rw [e]
  simpa [trcP] using h
theorem isTrc_i64 {w : World} {vv : Value} {t : Trc} (h : IsTrc w vv t) : t.ok ∧ ∀ e ∈ t.events, (∀ x ∈ e.deps, I64 x) ∧ ∀ x ∈ e.frm, I64 x := by
  obtain ⟨v, ds, -, -, hdl, hev, hok⟩ := h
  refine ⟨hok, fun e he => ?_⟩
  obtain ⟨k, hk, rfl⟩ := List.getElem_of_mem he
  obtain ⟨h1, h2⟩ := hev k _ (ds[k]'(by omega)) (List.getElem?_eq_getElem hk) (List.getElem?_eq_getElem (by omega))
  obtain ⟨_, _, _, _, _, h3, _⟩ := h1
  obtain ⟨_, _, _, _, _, h4, _⟩ := h2
  exact ⟨h3, h4⟩
end Go.Proofs.YtmnjmegejaejlaaDoor
