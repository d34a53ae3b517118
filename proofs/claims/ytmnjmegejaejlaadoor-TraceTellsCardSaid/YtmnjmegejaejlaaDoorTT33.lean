/-
  WORDS: a trace under way whose events share the numbers of older ones; what 'printable' makes of a trace.
-/
import Derived.Test.YtmnjmegejaejlaaDoorTT32
import Derived.Test.YtmnjmegejaejlaaDoorTT30
import Derived.Test.YtmnjmegejaejlaaDoorTT17
namespace Go.Proofs.YtmnjmegejaejlaaDoor
open Go.RowKit

structure PrS (w0 w : World) (base b : Nat) (v : Nat → Value) (t : Trc) (ds : List (Value × Value)) : Prop where
  blk : Blk w b 31 #[v 0, v 1, v 2, v 3, v 4, v 5, v 6]
  lt : b < base
  le : base ≤ w.heap.size
  row : ∀ i, i < 7 → w.ownsRow base (rowE i) (rowM i) (v i) (rowN t i) (rowX t ds i)
  ap : ∀ i j, i < 7 → j < 7 → i ≠ j → Apart (v i) (v j)
  dl : ds.length = t.events.length
  ev : ∀ (k : Nat) (e : Evn) (d : Value × Value), t.events[k]? = some e → ds[k]? = some d → Ints w0 d.1 e.deps ∧ Ints w0 d.2 e.frm
  ok : t.ok
theorem PrS.start {w0 w : World} {b : Nat} (h : Blk w b 31 #[.slice none 0 0, .slice none 0 0, .slice none 0 0, .slice none 0 0, .slice none 0 0, .slice none 0 0, .slice none 0 0]) (hb : b < w.heap.size) : PrS w0 w w.heap.size b nilV trc0 [] := by
  obtain ⟨h1, h2, h3, h4, h5, h6, _, h8⟩ := TrS.start h hb
  exact ⟨h1, h2, h3, h4, h5, h6, fun k e d h => by simp [trc0] at h, h8⟩
section
variable {w0 w w' : World} {base b : Nat} {v : Nat → Value} {t : Trc} {ds : List (Value × Value)}
theorem PrS.keep (h : PrS w0 w base b v t ds) (hb : Below w.heap.size w w') : PrS w0 w' base b v t ds :=
  ⟨h.blk.keep hb, h.lt, Nat.le_trans h.le hb.size, fun i hi => owns_keep (h.row i hi) hb, h.ap, h.dl, h.ev, h.ok⟩
theorem PrS.own {i : Nat} (h : PrS w0 w base b v t ds) (hi : i < 7) : ∀ g, (v i).ownBlock = some g → base ≤ g ∧ g < w.heap.size := fun g e => (h.row i hi).lt g e
/-- Row i is turned. -/
theorem PrS.put {i : Nat} {v' : Value} {t' : Trc} {ds' : List (Value × Value)} (h : PrS w0 w base b v t ds) (hi : i < 7) (hn : ∀ j, j < 7 → j ≠ i → rowN t' j = rowN t j ∧ rowX t' ds' j = rowX t ds j)
    (ho : w'.ownsRow base (rowE i) (rowM i) v' (rowN t' i) (rowX t' ds' i)) (hg : w.grownBy w' (v i).ownBlock) (hat : v'.ownBlock = (v i).ownBlock ∨ v'.ownBlock = some w.heap.size)
    (hdl : ds'.length = t'.events.length) (hev : ∀ (k : Nat) (e : Evn) (d : Value × Value), t'.events[k]? = some e → ds'[k]? = some d → Ints w0 d.1 e.deps ∧ Ints w0 d.2 e.frm) (hok : t'.ok) : PrS w0 (w'.setCell ⟨b, i, none⟩ v') base b (upd v i v') t' ds' := by
  have hset : w'.grownBy (w'.setCell ⟨b, i, none⟩ v') (some b) := grownBy_set0 _ _ _ _
  have hob := h.own hi
  have hblk : Blk w' b 31 #[v 0, v 1, v 2, v 3, v 4, v 5, v 6] := h.blk.grown hg (by intro e; have := hob b e.symm; have := h.lt; omega)
  refine ⟨?_, h.lt, ?_, fun j hj => ?_, fun j k hj hk hjk => ?_, hdl, hev, hok⟩
  · have hs := hblk.set_ i v'
    have hc : i = 0 ∨ i = 1 ∨ i = 2 ∨ i = 3 ∨ i = 4 ∨ i = 5 ∨ i = 6 := by omega
    rcases hc with rfl | rfl | rfl | rfl | rfl | rfl | rfl <;> exact hs
  · have h1 := hg.size; have h2 := h.le; have h3 := hset.size; omega
  · by_cases hji : j = i
    · subst hji
      rw [upd_same]
      exact ho.kept hset (own_ne ho h.lt)
    · obtain ⟨e1, e2⟩ := hn j hj hji
      rw [e1, e2, upd_other v v' hji]
      exact ((h.row j hj).kept hg (h.ap j i hj hi hji).ne).kept hset (own_ne ((h.row j hj).kept hg (h.ap j i hj hi hji).ne) h.lt)
  · have hl : ∀ j, j < 7 → j ≠ i → Apart (v j) v' := fun j hj hji =>
      (h.ap j i hj hi hji).append (n := w.heap.size) (fun g e => (h.own hj g e).2) hat
    by_cases hji : j = i
    · subst hji
      rw [upd_same, upd_other v v' (fun e => hjk e.symm)]
      exact (hl k hk (fun e => hjk e.symm)).symm
    · by_cases hki : k = i
      · subst hki
        rw [upd_same, upd_other v v' hji]
        exact hl j hj hji
      · rw [upd_other v v' hji, upd_other v v' hki]; exact h.ap j k hj hk hjk
theorem PrS.push {i : Nat} {v' : Value} {it : Item} {d : Value × Value} (h : PrS w0 w base b v t ds) (hi : it.group = i + 1)
    (ho : w'.ownsRow base (rowE i) (rowM i) v' (rowN t i + 1) (rowX t ds i ++ itemC it d)) (hg : w.grownBy w' (v i).ownBlock) (hat : v'.ownBlock = (v i).ownBlock ∨ v'.ownBlock = some w.heap.size)
    (hev : ∀ e, it = .event e → Ints w0 d.1 e.deps ∧ Ints w0 d.2 e.frm) (hok : it.ok) : PrS w0 (w'.setCell ⟨b, i, none⟩ v') base b (upd v i v') (t.add it) (addD ds it d) := by
  have hi7 : i < 7 := by have := it.group_le; omega
  obtain ⟨e1, e2⟩ := rowX_same (t := t) (ds := ds) (it := it) (d := d) hi h.dl
  refine h.put hi7 (fun j hj hji => ?_) (by rw [e1, e2]; exact ho) hg hat ?_ (fun k e d' h1 h2 => ?_) (Trc.ok_add h.ok hok)
  · obtain ⟨a, c⟩ := rowX_other (t := t) (ds := ds) (it := it) (d := d) hj (by omega)
    exact ⟨c, a⟩
  · have := h.dl
    cases it <;> simp [addD, Trc.add, this]
  · by_cases hx : ∃ e', it = .event e'
    · obtain ⟨e', rfl⟩ := hx
      simp only [Trc.add] at h1
      simp only [addD] at h2
      by_cases hk : k < t.events.length
      · rw [List.getElem?_append_left hk] at h1
        rw [List.getElem?_append_left (by rw [h.dl]; exact hk)] at h2
        exact h.ev k e d' h1 h2
      · rw [List.getElem?_append_right (by omega)] at h1
        rw [List.getElem?_append_right (by rw [h.dl]; omega), h.dl] at h2
        have hk0 : k - t.events.length = 0 := by
          have := (List.getElem?_eq_some_iff.1 h1).1
          simp at this; omega
        rw [hk0] at h1 h2
        simp at h1 h2
        subst h1 h2
        exact hev e' rfl
    · have e1 : (t.add it).events = t.events := by cases it <;> first | rfl | exact absurd ⟨_, rfl⟩ hx
      have e2 : addD ds it d = ds := by cases it <;> first | rfl | exact absurd ⟨_, rfl⟩ hx
      rw [e1] at h1
      rw [e2] at h2
      exact h.ev k e d' h1 h2
theorem PrS.is (h : PrS w0 w base b v t ds) (hb : Below w0.heap.size w0 w) : IsTrc w (.agg #[v 0, v 1, v 2, v 3, v 4, v 5, v 6]) t :=
  ⟨v, ds, rfl, fun i hi => owns_rd (h.row i hi), h.dl, fun k e d a c => ⟨(h.ev k e d a c).1.keep hb, (h.ev k e d a c).2.keep hb⟩, h.ok⟩
end
/-- int(uint(k)%23) + 1. -/
def kindP (k : Int) : Int := k % 18446744073709551616 % 23 + 1
theorem kindP_in (k : Int) : 1 ≤ kindP k ∧ kindP k ≤ 23 := by unfold kindP; omega
def celP (c : Cel) : Cel := ⟨[99, 49], c.index, c.size, c.vol, c.init⟩
def lckP (l : Lck) : Lck := ⟨[76, 111, 99, 107, 95, 111, 102, 95, 105, 116], l.rw⟩
def cndP (c : Cnd) : Cnd := ⟨[107], c.mutex⟩
def evnP (e : Evn) : Evn := ⟨e.thread, kindP e.kind, e.obj, e.value, e.site, e.deps, e.frm⟩
def trcP (t : Trc) : Trc := ⟨t.cells.map celP, t.locks.map lckP, t.conds.map cndP, t.futs.map fun _ => [102], t.thrs.map fun _ => [109, 97, 105, 110], t.sites, t.events.map evnP⟩
theorem trcP_prt (t : Trc) (h : t.ok) (hd : ∀ e ∈ t.events, (∀ x ∈ e.deps, I64 x) ∧ ∀ x ∈ e.frm, I64 x) : ∀ it ∈ (trcP t).items, it.ok ∧ it.prt := by
  obtain ⟨o1, o2, o3, o4⟩ := h
  intro it hit
  unfold Trc.items trcP at hit
  simp only [List.mem_append, List.mem_map, List.map_map] at hit
  rcases hit with ⟨c, hc, rfl⟩ | ⟨c, hc, rfl⟩ | ⟨c, hc, rfl⟩ | ⟨c, hc, rfl⟩ | ⟨c, hc, rfl⟩ | ⟨c, hc, rfl⟩ | ⟨c, hc, rfl⟩
  · exact ⟨o1 c hc, by show nameB [99, 49] = true; decide⟩
  · exact ⟨trivial, by show nameB [76, 111, 99, 107, 95, 111, 102, 95, 105, 116] = true; decide⟩
  · exact ⟨o2 c hc, by show nameB [107] = true; decide⟩
  · exact ⟨trivial, by show nameB [102] = true; decide⟩
  · exact ⟨trivial, by show nameB [109, 97, 105, 110] = true; decide⟩
  · exact ⟨o3 c hc, trivial⟩
  · obtain ⟨h1, h2, h3, h4, h5⟩ := o4 c hc
    have hk := kindP_in c.kind
    exact ⟨⟨h1, by show I64 (kindP c.kind); unfold I64; omega, h3, h4, h5⟩, kindP_in c.kind, (hd c hc).1, (hd c hc).2⟩
end Go.Proofs.YtmnjmegejaejlaaDoor
