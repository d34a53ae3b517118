/-
  WORDS: what interleaveref16.add answers; what stays above the rows.
-/
import Derived.Test.YtmnjmegejaejlaaDoorTR35
import Derived.Test.YtmnjmegejaejlaaDoorTR16
namespace Go.Proofs.YtmnjmegejaejlaaDoor
open Go.RowKit

/-- What the reference's add answers. -/
def RAddRet (w : World) (base b : Nat) (t : Trc) (o : Option Item) (e : Ending) (w' : World) : Prop :=
  ∃ g : Nat, e = .returned (.int .i64 (g : Int)) ∧ Below b w w' ∧ (∀ it, o = some it → g = it.group ∧ ∃ v' ds', TrS w' base b v' (t.add it) ds') ∧ (o = none → g = 0)
theorem radd_no {w w' : World} {base b N : Nat} {t : Trc} {o : Option Item} (hb : Below N w w') (hN : b ≤ N) (ho : o = none) : RAddRet w base b t o (.returned (.int .i64 0)) w' :=
  ⟨0, rfl, hb.mono hN, (fun it h => by rw [ho] at h; cases h), fun _ => rfl⟩
theorem radd_yes {w w' : World} {base b : Nat} {t : Trc} {o : Option Item} {it : Item} {v' : Nat → Value} {ds' : List (Value × Value)} {g : Int} (hb : Below b w w') (ho : o = some it) (hg : g = (it.group : Int)) (hT : TrS w' base b v' (t.add it) ds') : RAddRet w base b t o (.returned (.int .i64 g)) w' := by
  refine ⟨it.group, by rw [hg], hb, fun it' h => ?_, fun h => by rw [ho] at h; cases h⟩
  rw [ho] at h
  injection h with h
  subst h
  exact ⟨rfl, v', ds', hT⟩
/-- What lies at N and above is as it was. -/
def HiKeep (N : Nat) (w w' : World) : Prop := ∀ (a : Addr) (u : Value), N ≤ a.block → w.cell? a = some u → w'.cell? a = some u
theorem HiKeep.below {N : Nat} {w w' : World} (h : Below w.heap.size w w') : HiKeep N w w' := fun a _ _ hu => (h.cell (World.block_lt_of_cell? w a hu)).trans hu
theorem HiKeep.grown {N : Nat} {w w' : World} {row : Option Nat} (h : w.grownBy w' row) (hr : ∀ g, row = some g → g < N) : HiKeep N w w' := fun a u ha hu => h.cell hu (fun e => by have := hr a.block e.symm; omega)
theorem HiKeep.trans {N : Nat} {w w' w'' : World} (h : HiKeep N w w') (h' : HiKeep N w' w'') : HiKeep N w w'' := fun a u ha hu => h' a u ha (h a u ha hu)
theorem txts_dropn {w : World} {A : Option Addr} {n c : Nat} {l : List (List UInt8)} (hn : n = l.length) (h : Txts w (.slice A n c) l) (k : Nat) (hk : k ≤ l.length) :
    ∃ dp, (∀ w, (Instr.slice 25 (.slice A n c) (some (.int .i64 (k : Int))) none none).run Tryd.prog w = .ok (.slice dp (l.drop k).length (c - k)) w) ∧ Txts w (.slice dp (l.drop k).length (c - k)) (l.drop k) := by
  subst hn; exact txts_drop h k hk
theorem itemI_cons {h n : List UInt8} {qs : List (List UInt8)} (h1 : h ≠ wEvent) (h2 : h ≠ wSite) : itemI h (n :: qs) = if nameB n = true then (qs.mapM canonI).bind (namedI h n) else none := by rw [itemI_named h1 h2]
theorem item_noname {h n : List UInt8} {qs : List (List UInt8)} (h1 : h ≠ wEvent) (h2 : h ≠ wSite) (hn : nameB n = false) : itemI h (n :: qs) = none := by rw [itemI_cons h1 h2, hn]; rfl
theorem item_nonum {h n : List UInt8} {qs : List (List UInt8)} (h1 : h ≠ wEvent) (h2 : h ≠ wSite) (hm : qs.mapM canonI = none) : itemI h (n :: qs) = none := by
  rw [itemI_cons h1 h2, hm]; split <;> rfl
theorem item_num {h n : List UInt8} {qs : List (List UInt8)} {ns : List Int} (h1 : h ≠ wEvent) (h2 : h ≠ wSite) (hn : nameB n = true) (hm : qs.mapM canonI = some ns) : itemI h (n :: qs) = namedI h n ns := by
  rw [itemI_cons h1 h2, hm, if_pos hn]; rfl
theorem itemI_nil {h : List UInt8} (h1 : h ≠ wEvent) (h2 : h ≠ wSite) : itemI h [] = none := by rw [itemI_named h1 h2]
theorem itemI_site (ps : List (List UInt8)) : itemI wSite ps = (match ps.mapM canonI with
    | some [x, y, z] => some (.site ⟨x, y, z⟩)
    | _ => none) := by unfold itemI; rw [if_neg (by decide), if_pos rfl]; rfl
theorem itemI_event (ps : List (List UInt8)) : itemI wEvent ps = (eventI ps).map .event := by unfold itemI; rw [if_pos rfl]
theorem nb_cell {nm : List UInt8} {ns : List Int} (h : ns.length ≠ 3) : namedI wCell nm ns = none := by
  unfold namedI
  rw [if_pos (.inl rfl)]
  rcases ns with _ | ⟨a, _ | ⟨b, _ | ⟨c, _ | ⟨d, r⟩⟩⟩⟩ <;> first | rfl | exact absurd rfl h
theorem nb_volatile {nm : List UInt8} {ns : List Int} (h : ns.length ≠ 3) : namedI wVol nm ns = none := by
  unfold namedI
  rw [if_pos (.inr rfl)]
  rcases ns with _ | ⟨a, _ | ⟨b, _ | ⟨c, _ | ⟨d, r⟩⟩⟩⟩ <;> first | rfl | exact absurd rfl h
theorem nb_mutex {nm : List UInt8} {ns : List Int} (h : ns.length ≠ 0) : namedI wMutex nm ns = none := by
  cases ns with
  | nil => exact absurd rfl h
  | cons a r => rfl
theorem nb_rwlock {nm : List UInt8} {ns : List Int} (h : ns.length ≠ 0) : namedI wRw nm ns = none := by
  cases ns with
  | nil => exact absurd rfl h
  | cons a r => rfl
theorem nb_cond {nm : List UInt8} {ns : List Int} (h : ns.length ≠ 1) : namedI wCond nm ns = none := by
  rcases ns with _ | ⟨a, _ | ⟨b, r⟩⟩ <;> first | rfl | exact absurd rfl h
theorem nb_future {nm : List UInt8} {ns : List Int} (h : ns.length ≠ 0) : namedI wFut nm ns = none := by
  cases ns with
  | nil => exact absurd rfl h
  | cons a r => rfl
theorem nb_thread {nm : List UInt8} {ns : List Int} (h : ns.length ≠ 0) : namedI wThr nm ns = none := by
  cases ns with
  | nil => exact absurd rfl h
  | cons a r => rfl
theorem nb_site {ps : List (List UInt8)} {ns : List Int} (hm : ps.mapM canonI = some ns) (h : ns.length ≠ 3) : itemI wSite ps = none := by
  rw [itemI_site, hm]
  rcases ns with _ | ⟨a, _ | ⟨b, _ | ⟨c, _ | ⟨d, r⟩⟩⟩⟩ <;> first | rfl | exact absurd rfl h
theorem len3 {ns : List Int} (h : ns.length = 3) : ∃ x y z, ns = [x, y, z] := by
  rcases ns with _ | ⟨a, _ | ⟨b, _ | ⟨c, _ | ⟨d, r⟩⟩⟩⟩ <;> first | exact ⟨_, _, _, rfl⟩ | (simp at h)
theorem len1 {ns : List Int} (h : ns.length = 1) : ∃ x, ns = [x] := by
  rcases ns with _ | ⟨a, _ | ⟨b, r⟩⟩ <;> first | exact ⟨_, rfl⟩ | (simp at h)
end Go.Proofs.YtmnjmegejaejlaaDoor
