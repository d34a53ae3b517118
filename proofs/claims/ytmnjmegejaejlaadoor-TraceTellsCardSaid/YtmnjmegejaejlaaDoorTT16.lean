/-
  WORDS: a trace under way: a block of seven rows that the call has made.
-/
import Derived.Test.YtmnjmegejaejlaaDoorTT15
namespace Go.Proofs.YtmnjmegejaejlaaDoor
open Go.RowKit

def Cel.cells (c : Cel) : List Value := [.string ⟨c.name.toArray⟩, .int .i64 c.index, .int .i64 c.size, .bool c.vol, .int .i64 c.init]
def Lck.cells (c : Lck) : List Value := [.string ⟨c.name.toArray⟩, .bool c.rw]
def Cnd.cells (c : Cnd) : List Value := [.string ⟨c.name.toArray⟩, .int .i64 c.mutex]
def strC (n : List UInt8) : List Value := [.string ⟨n.toArray⟩]
def Sit.cells (s : Sit) : List Value := [.int .i64 s.thread, .int .i64 s.stmt, .int .i64 s.line]
def evC (q : Evn × Value × Value) : List Value := [.int .i64 q.1.thread, .int .i64 q.1.kind, .int .i64 q.1.obj, .int .i64 q.1.value, .int .i64 q.1.site, q.2.1, q.2.2]
def rowE : Nat → TypeId
  | 0 => 55
  | 1 => 57
  | 2 => 59
  | 3 => 9
  | 4 => 9
  | 5 => 71
  | _ => 53
def rowM : Nat → Nat
  | 0 => 5
  | 1 => 2
  | 2 => 2
  | 3 => 1
  | 4 => 1
  | 5 => 3
  | _ => 7
def rowN (t : Trc) : Nat → Nat
  | 0 => t.cells.length
  | 1 => t.locks.length
  | 2 => t.conds.length
  | 3 => t.futs.length
  | 4 => t.thrs.length
  | 5 => t.sites.length
  | _ => t.events.length
def rowX (t : Trc) (ds : List (Value × Value)) : Nat → List Value
  | 0 => t.cells.flatMap Cel.cells
  | 1 => t.locks.flatMap Lck.cells
  | 2 => t.conds.flatMap Cnd.cells
  | 3 => t.futs.flatMap strC
  | 4 => t.thrs.flatMap strC
  | 5 => t.sites.flatMap Sit.cells
  | _ => (t.events.zip ds).flatMap evC
def itemC (it : Item) (d : Value × Value) : List Value := match it with
  | .cell c => c.cells
  | .lock c => c.cells
  | .cond c => c.cells
  | .fut n => strC n
  | .thr n => strC n
  | .site s => s.cells
  | .event e => evC (e, d)
def addD (ds : List (Value × Value)) (it : Item) (d : Value × Value) : List (Value × Value) := match it with
  | .event _ => ds ++ [d]
  | _ => ds
def Item.ok : Item → Prop
  | .cell c => I64 c.index ∧ I64 c.size ∧ I64 c.init
  | .lock _ => True
  | .cond c => I64 c.mutex
  | .fut _ => True
  | .thr _ => True
  | .site s => I64 s.thread ∧ I64 s.stmt ∧ I64 s.line
  | .event e => e.ok
def Trc.ok (t : Trc) : Prop := (∀ c ∈ t.cells, (Item.cell c).ok) ∧ (∀ c ∈ t.conds, (Item.cond c).ok) ∧ (∀ s ∈ t.sites, (Item.site s).ok) ∧ ∀ e ∈ t.events, (Item.event e).ok
theorem Trc.ok_add {t : Trc} {it : Item} (h : t.ok) (hi : it.ok) : (t.add it).ok := by
  obtain ⟨h1, h2, h3, h4⟩ := h
  have key : ∀ {α : Type} {l : List α} {P : α → Prop} {x : α}, (∀ c ∈ l, P c) → P x → ∀ c ∈ l ++ [x], P c := fun h1 h2 c hc => by
    rcases List.mem_append.1 hc with hc | hc
    · exact h1 c hc
    · rw [List.mem_singleton] at hc; subst hc; exact h2
  cases it with
  | cell c => exact ⟨key h1 hi, h2, h3, h4⟩
  | lock c => exact ⟨h1, h2, h3, h4⟩
  | cond c => exact ⟨h1, key h2 hi, h3, h4⟩
  | fut n => exact ⟨h1, h2, h3, h4⟩
  | thr n => exact ⟨h1, h2, h3, h4⟩
  | site s => exact ⟨h1, h2, key h3 hi, h4⟩
  | event e => exact ⟨h1, h2, h3, key h4 hi⟩
theorem Item.group_le (it : Item) : 1 ≤ it.group ∧ it.group ≤ 7 := by cases it <;> simp [Item.group]
theorem rowX_same {t : Trc} {ds : List (Value × Value)} {it : Item} {d : Value × Value} {i : Nat} (hi : it.group = i + 1) (hd : ds.length = t.events.length) : rowX (t.add it) (addD ds it d) i = rowX t ds i ++ itemC it d ∧ rowN (t.add it) i = rowN t i + 1 := by
  cases it with
  | cell c => obtain rfl : i = 0 := by simp [Item.group] at hi; omega
              exact ⟨by simp [rowX, Trc.add, itemC], by simp [rowN, Trc.add]⟩
  | lock c => obtain rfl : i = 1 := by simp [Item.group] at hi; omega
              exact ⟨by simp [rowX, Trc.add, itemC], by simp [rowN, Trc.add]⟩
  | cond c => obtain rfl : i = 2 := by simp [Item.group] at hi; omega
              exact ⟨by simp [rowX, Trc.add, itemC], by simp [rowN, Trc.add]⟩
  | fut c => obtain rfl : i = 3 := by simp [Item.group] at hi; omega
             exact ⟨by simp [rowX, Trc.add, itemC], by simp [rowN, Trc.add]⟩
  | thr c => obtain rfl : i = 4 := by simp [Item.group] at hi; omega
             exact ⟨by simp [rowX, Trc.add, itemC], by simp [rowN, Trc.add]⟩
  | site c => obtain rfl : i = 5 := by simp [Item.group] at hi; omega
              exact ⟨by simp [rowX, Trc.add, itemC], by simp [rowN, Trc.add]⟩
  | event c => obtain rfl : i = 6 := by simp [Item.group] at hi; omega
               refine ⟨?_, by simp [rowN, Trc.add]⟩
               simp only [rowX, Trc.add, addD, itemC]
               rw [List.zip_append hd.symm]
               simp
theorem rowX_other {t : Trc} {ds : List (Value × Value)} {it : Item} {d : Value × Value} {j : Nat} (hj : j < 7) (hne : it.group ≠ j + 1) : rowX (t.add it) (addD ds it d) j = rowX t ds j ∧ rowN (t.add it) j = rowN t j := by
  have hj7 : j = 0 ∨ j = 1 ∨ j = 2 ∨ j = 3 ∨ j = 4 ∨ j = 5 ∨ j = 6 := by omega
  cases it <;> rcases hj7 with rfl | rfl | rfl | rfl | rfl | rfl | rfl <;> first | exact absurd rfl hne | exact ⟨rfl, rfl⟩

/-- The blocks that hold numbers of events: made by the call, no row's own. -/
def EvP (base : Nat) (v : Nat → Value) (g : Nat) : Prop := base ≤ g ∧ ∀ i, i < 7 → (v i).ownBlock ≠ some g
structure TrS (w : World) (base b : Nat) (v : Nat → Value) (t : Trc) (ds : List (Value × Value)) : Prop where
  blk : Blk w b 31 #[v 0, v 1, v 2, v 3, v 4, v 5, v 6]
  lt : b < base
  le : base ≤ w.heap.size
  row : ∀ i, i < 7 → w.ownsRow base (rowE i) (rowM i) (v i) (rowN t i) (rowX t ds i)
  ap : ∀ i j, i < 7 → j < 7 → i ≠ j → Apart (v i) (v j)
  dl : ds.length = t.events.length
  ev : ∀ (k : Nat) (e : Evn) (d : Value × Value), t.events[k]? = some e → ds[k]? = some d → IntsO w (EvP base v) d.1 e.deps ∧ IntsO w (EvP base v) d.2 e.frm
  ok : t.ok
def upd (v : Nat → Value) (i : Nat) (u : Value) : Nat → Value := fun j => if j = i then u else v j
theorem upd_same (v : Nat → Value) (i : Nat) (u : Value) : upd v i u i = u := by simp [upd]
theorem upd_other (v : Nat → Value) {i j : Nat} (u : Value) (h : j ≠ i) : upd v i u j = v j := by simp [upd, h]
def nilV : Nat → Value := fun _ => .slice none 0 0
theorem TrS.start {w : World} {b : Nat} (h : Blk w b 31 #[.slice none 0 0, .slice none 0 0, .slice none 0 0, .slice none 0 0, .slice none 0 0, .slice none 0 0, .slice none 0 0]) (hb : b < w.heap.size) : TrS w w.heap.size b nilV trc0 [] := by
  refine ⟨h, hb, Nat.le_refl _, fun i hi => ?_, fun i j _ _ _ => Apart.nil_left _, rfl, fun k e d h => by simp [trc0] at h, ⟨by simp [trc0], by simp [trc0], by simp [trc0], by simp [trc0]⟩⟩
  have hi7 : i = 0 ∨ i = 1 ∨ i = 2 ∨ i = 3 ∨ i = 4 ∨ i = 5 ∨ i = 6 := by omega
  rcases hi7 with rfl | rfl | rfl | rfl | rfl | rfl | rfl <;> exact World.ownsRow_nil _ _ _ _
section
variable {w w' : World} {base b : Nat} {v : Nat → Value} {t : Trc} {ds : List (Value × Value)}
theorem TrS.keep (h : TrS w base b v t ds) (hb : Below w.heap.size w w') : TrS w' base b v t ds :=
  ⟨h.blk.keep hb, h.lt, Nat.le_trans h.le hb.size, fun i hi => owns_keep (h.row i hi) hb, h.ap, h.dl, fun k e d h1 h2 => ⟨(h.ev k e d h1 h2).1.keep hb, (h.ev k e d h1 h2).2.keep hb⟩, h.ok⟩
theorem TrS.own {i : Nat} (h : TrS w base b v t ds) (hi : i < 7) : ∀ g, (v i).ownBlock = some g → base ≤ g ∧ g < w.heap.size := fun g e => (h.row i hi).lt g e
theorem TrS.push {i : Nat} {v' : Value} {o : Obj} {it : Item} {d : Value × Value} (h : TrS w base b v t ds) (hi : it.group = i + 1)
    (ho : w'.ownsRow base (rowE i) (rowM i) v' (rowN t i + 1) (rowX t ds i ++ itemC it d)) (hg : (w.alloc o).grownBy w' (v i).ownBlock) (hat : v'.ownBlock = (v i).ownBlock ∨ v'.ownBlock = some (w.alloc o).heap.size)
    (hev : ∀ e, it = .event e → IntsO w (EvP base v) d.1 e.deps ∧ IntsO w (EvP base v) d.2 e.frm) (hok : it.ok) : TrS (w'.setCell ⟨b, i, none⟩ v') base b (upd v i v') (t.add it) (addD ds it d) := by
  have hi7 : i < 7 := by have := it.group_le; omega
  have hga : w.grownBy w' (v i).ownBlock := grownBy_trans (World.grownBy_alloc w o (v i).ownBlock) hg
  have hset : w'.grownBy (w'.setCell ⟨b, i, none⟩ v') (some b) := grownBy_set0 _ _ _ _
  have hob := h.own hi7
  have hblk : Blk w' b 31 #[v 0, v 1, v 2, v 3, v 4, v 5, v 6] := h.blk.grown hga (by intro e; have := hob b e.symm; have := h.lt; omega)
  have hsz : (w.alloc o).heap.size = w.heap.size + 1 := by simp
  have key : ∀ {u xs}, IntsO w (EvP base v) u xs → IntsO (w'.setCell ⟨b, i, none⟩ v') (EvP base (upd v i v')) u xs := by
    intro u xs hx
    have h1 : IntsO w (fun g => EvP base v g ∧ g < w.heap.size) u xs := hx.mono fun g a b => ⟨b, a⟩
    have h2 := (h1.grown hga (fun g hg e => hg.1.2 i hi7 e.symm)).grown hset (fun g hg e => by injection e with e; have := hg.1.1; have := h.lt; omega)
    refine h2.mono fun g _ hgg => ⟨hgg.1.1, fun j hj => ?_⟩
    by_cases hji : j = i
    · subst hji
      rw [upd_same]
      rcases hat with e | e
      · rw [e]; exact hgg.1.2 j hj
      · rw [e, hsz]; intro e2; injection e2 with e2; have := hgg.2; omega
    · rw [upd_other v v' hji]; exact hgg.1.2 j hj
  refine ⟨?_, h.lt, ?_, fun j hj => ?_, fun j k hj hk hjk => ?_, ?_, fun k e d' h1 h2 => ?_, Trc.ok_add h.ok hok⟩
  · have hs := hblk.set_ i v'
    have hc : i = 0 ∨ i = 1 ∨ i = 2 ∨ i = 3 ∨ i = 4 ∨ i = 5 ∨ i = 6 := by omega
    rcases hc with rfl | rfl | rfl | rfl | rfl | rfl | rfl <;> exact hs
  · have h1 := hga.size; have h2 := h.le; have h3 := hset.size; omega
  · by_cases hji : j = i
    · subst hji
      obtain ⟨e1, e2⟩ := rowX_same (t := t) (ds := ds) (it := it) (d := d) hi h.dl
      rw [e1, e2, upd_same]
      exact ho.kept hset (own_ne ho h.lt)
    · obtain ⟨e1, e2⟩ := rowX_other (t := t) (ds := ds) (it := it) (d := d) hj (by omega)
      rw [e1, e2, upd_other v v' hji]
      exact ((h.row j hj).kept hga (h.ap j i hj hi7 hji).ne).kept hset (own_ne ((h.row j hj).kept hga (h.ap j i hj hi7 hji).ne) h.lt)
  · have hl : ∀ j, j < 7 → j ≠ i → Apart (v j) v' := fun j hj hji => by
      refine (h.ap j i hj hi7 hji).append (n := w.heap.size + 1) (fun g e => by have := (h.own hj g e).2; omega) ?_
      rw [← hsz]; exact hat
    by_cases hji : j = i
    · subst hji
      rw [upd_same, upd_other v v' (fun e => hjk e.symm)]
      exact (hl k hk (fun e => hjk e.symm)).symm
    · by_cases hki : k = i
      · subst hki
        rw [upd_same, upd_other v v' hji]
        exact hl j hj hji
      · rw [upd_other v v' hji, upd_other v v' hki]; exact h.ap j k hj hk hjk
  · have := h.dl
    cases it <;> simp [addD, Trc.add, this]
  · by_cases hx : ∃ e', it = .event e'
    · obtain ⟨e', rfl⟩ := hx
      simp only [Trc.add] at h1
      simp only [addD] at h2
      by_cases hk : k < t.events.length
      · rw [List.getElem?_append_left hk] at h1
        rw [List.getElem?_append_left (by rw [h.dl]; exact hk)] at h2
        exact ⟨key (h.ev k e d' h1 h2).1, key (h.ev k e d' h1 h2).2⟩
      · rw [List.getElem?_append_right (by omega)] at h1
        rw [List.getElem?_append_right (by rw [h.dl]; omega), h.dl] at h2
        have hk0 : k - t.events.length = 0 := by
          have := (List.getElem?_eq_some_iff.1 h1).1
          simp at this; omega
        rw [hk0] at h1 h2
        simp at h1 h2
        subst h1 h2
        exact ⟨key (hev e' rfl).1, key (hev e' rfl).2⟩
    · have e1 : (t.add it).events = t.events := by cases it <;> first | rfl | exact absurd ⟨_, rfl⟩ hx
      have e2 : addD ds it d = ds := by cases it <;> first | rfl | exact absurd ⟨_, rfl⟩ hx
      rw [e1] at h1
      rw [e2] at h2
      exact ⟨key (h.ev k e d' h1 h2).1, key (h.ev k e d' h1 h2).2⟩
end
/-- The value vv is the trace t. -/
def IsTrc (w : World) (vv : Value) (t : Trc) : Prop := ∃ (v : Nat → Value) (ds : List (Value × Value)), vv = .agg #[v 0, v 1, v 2, v 3, v 4, v 5, v 6] ∧
  (∀ i, i < 7 → ∃ A c, v i = .slice A (rowN t i) c ∧ rowN t i ≤ c ∧ c ≤ maxLen ∧ Rd w A (rowX t ds i)) ∧ ds.length = t.events.length ∧
  (∀ (k : Nat) (e : Evn) (d : Value × Value), t.events[k]? = some e → ds[k]? = some d → Ints w d.1 e.deps ∧ Ints w d.2 e.frm) ∧ t.ok
theorem IsTrc.keep {w w' : World} {vv : Value} {t : Trc} (h : IsTrc w vv t) (hb : Below w.heap.size w w') : IsTrc w' vv t := by
  obtain ⟨v, ds, h1, h2, h3, h4, h5⟩ := h
  exact ⟨v, ds, h1, fun i hi => by obtain ⟨A, c, a1, a2, a3, a4⟩ := h2 i hi; exact ⟨A, c, a1, a2, a3, a4.keep hb⟩, h3, fun k e d a b => ⟨(h4 k e d a b).1.keep hb, (h4 k e d a b).2.keep hb⟩, h5⟩
theorem TrS.is {w : World} {base b : Nat} {v : Nat → Value} {t : Trc} {ds : List (Value × Value)} (h : TrS w base b v t ds) : IsTrc w (.agg #[v 0, v 1, v 2, v 3, v 4, v 5, v 6]) t :=
  ⟨v, ds, rfl, fun i hi => owns_rd (h.row i hi), h.dl, fun k e d a b => ⟨(h.ev k e d a b).1.ints, (h.ev k e d a b).2.ints⟩, h.ok⟩
end Go.Proofs.YtmnjmegejaejlaaDoor
