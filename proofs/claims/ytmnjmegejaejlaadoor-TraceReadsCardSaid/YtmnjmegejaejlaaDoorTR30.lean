/-
  WALKS: interleaveref16.list, kinds, kindOf.
-/
import Derived.Test.YtmnjmegejaejlaaDoorTR29
namespace Go.Proofs.YtmnjmegejaejlaaDoor
open Go.RowKit

/-- The numbers behind a word up to another word; what is left. -/
def listS (word stop : List UInt8) : List (List UInt8) → Option (List Int × List (List UInt8))
  | [] => some ([], [])
  | h :: t => if h = word then (if t.takeWhile (· ≠ stop) = [] then none else ((t.takeWhile (· ≠ stop)).mapM canonI).map fun ns => (ns, t.dropWhile (· ≠ stop))) else some ([], h :: t)
theorem listS_cons (word stop h : List UInt8) (t : List (List UInt8)) : listS word stop (h :: t) = if h = word then (if t.takeWhile (· ≠ stop) = [] then none else ((t.takeWhile (· ≠ stop)).mapM canonI).map fun ns => (ns, t.dropWhile (· ≠ stop))) else some ([], h :: t) := rfl
theorem listS_from (word : List UInt8) (l : List (List UInt8)) : listS word wFrom l = listI word l := by cases l <;> rfl
theorem listS_end (l : List (List UInt8)) (ns : List Int) : listS wFrom [] l = some (ns, []) ↔ listI wFrom l = some (ns, []) := by
  cases l with
  | nil => exact Iff.rfl
  | cons h t =>
    rw [listS_cons, listI_cons]
    by_cases hw : h = wFrom
    · rw [if_pos hw, if_pos hw]
      have key : ∀ (stop : List UInt8), canonI stop = none → ((if t.takeWhile (· ≠ stop) = [] then none else ((t.takeWhile (· ≠ stop)).mapM canonI).map fun ns => (ns, t.dropWhile (· ≠ stop))) = some (ns, []) ↔ t ≠ [] ∧ t.mapM canonI = some ns) := by
        intro stop hs
        constructor
        · intro h
          split at h
          · cases h
          · rename_i hne
            cases hm : (t.takeWhile (· ≠ stop)).mapM canonI with
            | none => rw [hm] at h; cases h
            | some ns' =>
              rw [hm] at h
              simp only [Option.map_some, Option.some.injEq, Prod.mk.injEq] at h
              have e : t.takeWhile (· ≠ stop) = t := by
                have := List.takeWhile_append_dropWhile (p := fun x => decide (x ≠ stop)) (l := t)
                rw [h.2, List.append_nil] at this; exact this
              rw [e] at hm hne
              exact ⟨hne, by rw [hm, h.1]⟩
        · rintro ⟨h1, h2⟩
          have hall : ∀ p ∈ t, decide (p ≠ stop) = true := fun p hp => by
            simp only [decide_eq_true_eq]
            intro e
            subst e
            rw [mapM_bad hp hs] at h2; cases h2
          obtain ⟨e1, e2⟩ := takeWhile_all (q := fun p => decide (p ≠ stop)) t [] hall (by simp)
          rw [List.append_nil] at e1 e2
          rw [e1, e2, if_neg h1, h2]; rfl
      rw [key [] canonI_e, key wFrom canonI_from]
    · rw [if_neg hw, if_neg hw]
where canonI_e : canonI [] = none := by decide
/-- A list of the reference's under way. -/
def LsTo (stop : List UInt8) (t rest : List (List UInt8)) (ns : List Int) : Prop := ∃ tk, t = tk ++ rest ∧ (∀ p ∈ tk, p ≠ stop) ∧ tk.mapM canonI = some ns
theorem LsTo.next {stop : List UInt8} {t r : List (List UInt8)} {p : List UInt8} {ns : List Int} {v : Int} (h : LsTo stop t (p :: r) ns) (hp : p ≠ stop) (hc : canonI p = some v) : LsTo stop t r (ns ++ [v]) := by
  obtain ⟨tk, h1, h3, h4⟩ := h
  refine ⟨tk ++ [p], by simp [h1], fun q hq => ?_, ?_⟩
  · rcases List.mem_append.1 hq with hq | hq
    · exact h3 q hq
    · rw [List.mem_singleton] at hq; subst hq; exact hp
  · rw [List.mapM_append, h4]; simp [hc]
theorem LsTo.done {word stop : List UInt8} {t rest : List (List UInt8)} {ns : List Int} (h : LsTo stop t rest ns) (hr : ∀ p, rest.head? = some p → p = stop) : listS word stop (word :: t) = if ns = [] then none else some (ns, rest) := by
  obtain ⟨tk, h1, h3, h4⟩ := h
  obtain ⟨e1, e2⟩ := takeWhile_all (q := fun p => decide (p ≠ stop)) tk rest (fun p hp => by simpa using h3 p hp) (fun p hp => by simp [hr p hp])
  rw [listS_cons, if_pos rfl, h1]
  have hl := mapM_len h4
  by_cases htk : tk = []
  · subst htk
    have : ns = [] := List.eq_nil_of_length_eq_zero (by simpa using hl)
    rw [if_pos this, e1, if_pos rfl]
  · have : ns ≠ [] := fun e => htk (List.eq_nil_of_length_eq_zero (by rw [← hl, e]; rfl))
    rw [if_neg this, e1, e2, if_neg htk, h4]; rfl
theorem LsTo.bad {word stop p : List UInt8} {t r : List (List UInt8)} {ns : List Int} (h : LsTo stop t (p :: r) ns) (hp : p ≠ stop) (hc : canonI p = none) : listS word stop (word :: t) = none := by
  obtain ⟨tk, h1, h3, h4⟩ := h
  rw [listS_cons, if_pos rfl, h1, takeWhile_pre (q := fun p => decide (p ≠ stop)) tk (p :: r) (fun q hq => by simpa using h3 q hq)]
  have e : (p :: r).takeWhile (fun p => decide (p ≠ stop)) = p :: r.takeWhile (fun p => decide (p ≠ stop)) := by simp [hp]
  rw [e, if_neg (by simp), mapM_bad (List.mem_append_right tk List.mem_cons_self) hc]
  rfl
/-- What the reference's list answers. -/
def RListRet (w : World) (word stop : List UInt8) (l : List (List UInt8)) (e : Ending) (w' : World) : Prop :=
  ∃ (A : Option Addr) (c : Nat) (ns : List Int) (k : Nat) (fine : Bool), e = .returned (.tuple #[.slice A ns.length c, .int .i64 (k : Int), .bool fine]) ∧ IntsO w' (fun b => w.heap.size ≤ b) (.slice A ns.length c) ns ∧ Below w.heap.size w w' ∧ k ≤ l.length ∧
    (fine = true → listS word stop l = some (ns, l.drop k)) ∧ (fine = false → listS word stop l = none)
set_option maxRecDepth 100000 in
set_option maxHeartbeats 4000000 in
theorem rlist_any (word stop : List UInt8) (A : Option Addr) (c : Nat) (l : List (List UInt8)) (w : World) (h : Txts w (.slice A l.length c) l) (hp : PT w) (hl : ∀ p ∈ l, p.length ≤ 1000000000) (hn : l.length ≤ 1000000000) :
    Calls Tryd.prog 59 #[.slice A l.length c, .string ⟨word.toArray⟩, .string ⟨stop.toArray⟩] w (RListRet w word stop l) := by
  obtain ⟨A', c', ex, kx1, kx2, hrd⟩ := h
  injection ex with ex1 ex2 ex3
  subst ex1 ex3
  have HP := Lib.hid hp
  have HL := Lib.hid hl
  obtain ⟨iI, hiI, hzI0, hzI1, hzI2⟩ := info_parts info_int
  unfold maxLen at kx2
  have hnil : IntsO w (fun b => w.heap.size ≤ b) (.slice none 0 0) [] := ⟨none, 0, rfl, by simp, by simp [maxLen], by simp, by simp⟩
  have HNIL := Lib.hid hnil
  clear hp hl ex2 hnil
  go_enter Tryd.func59, Tryd.ntmps59
  cases l with
  | nil =>
    clear hrd
    go_wp2_with fail
    go_ret3
    exact ⟨none, 0, [], 0, true, rfl, HNIL.out, Below.refl _ _, by simp, fun _ => rfl, fun h => by cases h⟩
  | cons p t =>
    obtain ⟨b, off, rfl, hbl, hc0⟩ := hrd.at_ (k := 0) (u := .string ⟨p.toArray⟩) rfl
    rw [Nat.add_zero] at hc0
    have HRD := Lib.hid hrd
    have q1 : (((p :: t).length : Int) == 0) = false := by rw [beq_eq_false_iff_ne]; simp; omega
    have hn0 : 0 < (p :: t).length := by simp
    clear hrd
    by_cases hpw : p = word
    · subst hpw
      have HTN : Hid ((p :: t).length = t.length + 1) := Lib.hid (by simp)
      generalize hnn : (p :: t).length = n at *
      clear hnn
      go_wp2_with fail
      go_loopw [9, 10] (fun kv lv wr => ∃ (k : Nat) (ns : List Int), k + 1 ≤ n ∧ kv = .int .i64 ((k : Int) + 1) ∧ Hid (Own wr w.heap.size lv ns) ∧ Hid (LsTo stop t (t.drop k) ns) ∧ Hid (Below w.heap.size w wr) ∧ Hid (ns.length ≤ k)) (fun kv _ _ => n - (intOf kv).toNat)
      case atStart => exact ⟨0, [], by omega, rfl, Lib.hid ⟨World.ownsRow_nil _ _ _ _, by simp⟩, Lib.hid ⟨[], rfl, by simp, rfl⟩, Lib.hid (Below.refl _ _), Lib.hid (by simp)⟩
      case round =>
        obtain ⟨k, ns, hk, rfl, HO, HLS, HB, HNK⟩ := hrel
        obtain ⟨Ao, co, eo, -, -, -⟩ := owns_rd HO.out.1
        subst eo
        have HPW := Lib.hid (HP.out.below HB.out)
        have HEND : Hid ((∀ q, (t.drop k).head? = some q → q = stop) → ∀ fine : Bool, fine = decide ((0 : Int) < (ns.length : Int)) → RListRet w p stop (p :: t) (.returned (.tuple #[.slice Ao ns.length co, .int .i64 ((k : Int) + 1), .bool fine])) wr) := Lib.hid (fun hq fine hf => by
          have hd := HLS.out.done (word := p) hq
          refine ⟨Ao, co, ns, k + 1, fine, rfl, HO.out.intsO (fun b hb _ _ => hb), HB.out, by rw [HTN.out] at hk; simp; omega, fun h => ?_, fun h => ?_⟩
          · rw [hd, if_neg (by intro e; rw [hf, e] at h; simp at h), List.drop_succ_cons]
          · rw [hd, if_pos (by
              rw [hf] at h
              cases ns with
              | nil => rfl
              | cons a r => simp at h)])
        by_cases hlt : k + 1 < n
        · obtain ⟨q, hq⟩ : ∃ q, t[k]? = some q := ⟨_, List.getElem?_eq_getElem (by have := HTN.out; omega)⟩
          obtain ⟨b', off', e', hbl', hcl0⟩ := HRD.out.at_ (k := k + 1) (u := .string ⟨q.toArray⟩) (by rw [List.getElem?_map, List.getElem?_cons_succ, hq]; rfl)
          injection e' with e'
          injection e' with e1 e2 _
          subst e1 e2
          have hcl : wr.cell? ⟨b, off + (k + 1), none⟩ = some (.string ⟨q.toArray⟩) := (HB.out.cell (p := ⟨b, off + (k + 1), none⟩) hbl).trans hcl0
          have hcl2 : wr.cell? ⟨b, off + k + 1, none⟩ = some (.string ⟨q.toArray⟩) := hcl
          have hbw : b < wr.heap.size := Nat.lt_of_lt_of_le hbl HB.out.size
          have HDR : Hid (t.drop k = q :: t.drop (k + 1)) := Lib.hid (by
            rw [List.drop_eq_getElem_cons (by have := HTN.out; omega)]
            rw [List.getElem?_eq_getElem (by have := HTN.out; omega)] at hq
            injection hq with hq; rw [hq])
          have HPL := Lib.hid (HL.out q (by simp [List.mem_of_getElem? hq]))
          clear hq hcl0 hbl'
          by_cases hqs : q = stop
          · have q2 : (q == stop) = true := by rw [beq_iff_eq]; exact hqs
            have HE := Lib.hid (HEND.out (fun q' h => by rw [HDR.out] at h; injection h with h; rw [← h]; exact hqs))
            clear HEND hqs
            go_wp2_with fail
            go_ret3
            exact HE.out _ (by simp)
          · have q2 : (q == stop) = false := by rw [beq_eq_false_iff_ne]; exact hqs
            have HQS := Lib.hid hqs
            clear HEND hqs
            go_wp2_with fail
            refine (rlong_any q wr HPW.out HPL.out).mono ?_
            rintro e w3 ⟨x, rfl, hx, hcx, hb3⟩
            have HB3 := Lib.hid hb3
            have HBW := Lib.hid (HB.out.trans (hb3.mono HB.out.size))
            have HX := Lib.hid hx
            have HCX := Lib.hid hcx
            clear hb3 hx hcx hcl hcl2
            cases hc : canonI q with
            | none =>
              have HN : Hid (listS p stop (p :: t) = none) := Lib.hid (LsTo.bad (by have h := HLS.out; rw [HDR.out] at h; exact h) HQS.out hc)
              clear hc
              go_wp2_with fail
              go_ret3
              exact ⟨none, 0, [], 0, false, rfl, ⟨none, 0, rfl, by simp, by simp [maxLen], by simp, by simp⟩, HBW.out, by simp, (fun h => by cases h), fun _ => HN.out⟩
            | some x' =>
              obtain rfl := HCX.out x' hc
              have HLS2 : Hid (LsTo stop t (t.drop (k + 1)) (ns ++ [x])) := Lib.hid (LsTo.next (by have h := HLS.out; rw [HDR.out] at h; exact h) HQS.out hc)
              have HO3 : Hid (Own w3 w.heap.size (.slice Ao ns.length co) ns) := Lib.hid ⟨owns_keep HO.out.1 HB3.out, HO.out.2⟩
              have HNL : Hid (ns.length ≤ 1000000000) := Lib.hid (by have := HNK.out; omega)
              clear hc
              go_wp2_with (at_builtin; refine wpList_append_own_at _ rfl _ _ 51 rfl w.heap.size 3 iI (.int .i64 0) 1 8 Tryd.underlying51 hiI hzI0 hzI1 hzI2 rfl (by decide) _ _ _ rfl (HO3.out.1.alloc _) ⟨w3.heap.size, 0, none⟩ 1 1 [.int .i64 x] rfl rfl (one_at w3 _ _) ?a2 ?a3 ?a4 ?a5 ?_)
              case a2 => intro u hu; simp at hu; subst hu; rfl
              case a3 => have := HNL.out; unfold maxLen; omega
              case a4 => have := HNL.out; omega
              case a5 => have := HBW.out.size; simp; omega
              intro v7 w7 hown hgrow _ hat
              have HO7 : Hid (Own w7 w.heap.size v7 (ns ++ [x])) := Lib.hid ⟨by simpa using hown, fun z hz => by
                rcases List.mem_append.1 hz with hz | hz
                · exact HO3.out.2 z hz
                · rw [List.mem_singleton] at hz; subst hz; exact HX.out⟩
              have HB7 : Hid (Below w.heap.size w w7) := Lib.hid ((HBW.out.alloc HBW.out.size _).grown hgrow (by have := HBW.out.size; simp; omega) fun k e => (HO3.out.1.lt k e).1)
              obtain ⟨A7, c7, e7, -, -, -⟩ := owns_rd hown
              subst e7
              clear hown hgrow hat
              go_wp2_with fail
              go_roundw
              case rel => exact ⟨k + 1, ns ++ [x], by omega, by go_num, by simpa using HO7, HLS2, HB7, Lib.hid (by have := HNK.out; simp; omega)⟩
              case measure => simp [intOf]; omega
        · have HE := Lib.hid (HEND.out (fun q' h => by rw [List.drop_eq_nil_of_le (by have := HTN.out; omega)] at h; cases h))
          have hkn : (k : Int) + 1 = (n : Int) := by omega
          clear HEND
          go_wp2_with fail
          go_ret3
          exact HE.out _ (by simp)
    · have q2 : (p == word) = false := by rw [beq_eq_false_iff_ne]; exact hpw
      have HNW : Hid (listS word stop (p :: t) = some ([], p :: t)) := Lib.hid (by rw [listS_cons, if_neg hpw])
      generalize hnn : (p :: t).length = n at *
      clear hnn hpw
      go_wp2_with fail
      go_ret3
      exact ⟨none, 0, [], 0, true, rfl, HNIL.out, Below.refl _ _, by simp, fun _ => HNW.out, fun h => by cases h⟩
end Go.Proofs.YtmnjmegejaejlaaDoor
