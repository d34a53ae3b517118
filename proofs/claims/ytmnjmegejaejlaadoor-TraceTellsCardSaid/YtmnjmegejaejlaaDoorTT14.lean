/-
  WALK: (*trace.reader).list.
-/
import Derived.Test.YtmnjmegejaejlaaDoorTT13
namespace Go.Proofs.YtmnjmegejaejlaaDoor
open Go.RowKit

theorem own_new (w : World) (v : Int) (hv : I64 v) : Own (w.alloc (.cells #[.int .i64 v] 3)) w.heap.size (.slice (some ⟨w.heap.size, 0, none⟩) 1 1) [v] :=
  ⟨⟨by simp, .inr ⟨w.heap.size, 1, #[.int .i64 v], rfl, Nat.le_refl _, Blk.new _ _ _, by simp, by simp [maxLen], by simp, by simp⟩⟩, by simpa using hv⟩
theorem Own.grown {w w' : World} {base g : Nat} {v : Value} {xs : List Int} (h : Own w base v xs) (hg : w.grownBy w' (some g)) (hb : g < base) : Own w' base v xs := ⟨h.1.kept hg (own_ne h.1 hb), h.2⟩
theorem listI_cons (word h : List UInt8) (t : List (List UInt8)) : listI word (h :: t) = if h = word then (if t.takeWhile (· ≠ wFrom) = [] then none else ((t.takeWhile (· ≠ wFrom)).mapM canonI).map fun ns => (ns, t.dropWhile (· ≠ wFrom))) else some ([], h :: t) := rfl
theorem canonI_from : canonI wFrom = none := by decide
/-- A list under way: what is read of the parts behind the word. -/
def LiTo (t rest : List (List UInt8)) (ns : List Int) : Prop := ∃ tk, t = tk ++ rest ∧ tk ≠ [] ∧ (∀ p ∈ tk, p ≠ wFrom) ∧ tk.mapM canonI = some ns
theorem LiTo.first {p : List UInt8} {r : List (List UInt8)} {v : Int} (hc : canonI p = some v) : LiTo (p :: r) r [v] :=
  ⟨[p], rfl, by simp, (by
    intro q hq
    rw [List.mem_singleton] at hq
    subst hq; intro e; rw [e, canonI_from] at hc; cases hc), by simp [hc]⟩
theorem LiTo.next {t r : List (List UInt8)} {p : List UInt8} {ns : List Int} {v : Int} (h : LiTo t (p :: r) ns) (hp : p ≠ wFrom) (hc : canonI p = some v) : LiTo t r (ns ++ [v]) := by
  obtain ⟨tk, h1, h2, h3, h4⟩ := h
  refine ⟨tk ++ [p], by simp [h1], by simp, fun q hq => ?_, ?_⟩
  · rcases List.mem_append.1 hq with hq | hq
    · exact h3 q hq
    · rw [List.mem_singleton] at hq; subst hq; exact hp
  · rw [List.mapM_append, h4]; simp [hc]
theorem takeWhile_all {α : Type} {q : α → Bool} : ∀ (tk rest : List α), (∀ p ∈ tk, q p = true) → (∀ p, rest.head? = some p → q p = false) → (tk ++ rest).takeWhile q = tk ∧ (tk ++ rest).dropWhile q = rest
  | [], rest, _, h2 => by
    cases rest with
    | nil => simp
    | cons p r => have := h2 p rfl; simp [this]
  | a :: tk, rest, h1, h2 => by
    obtain ⟨e1, e2⟩ := takeWhile_all tk rest (fun p hp => h1 p (by simp [hp])) h2
    have ha := h1 a (by simp)
    simp [ha, e1, e2]
theorem LiTo.done {word : List UInt8} {t rest : List (List UInt8)} {ns : List Int} (h : LiTo t rest ns) (hr : ∀ p, rest.head? = some p → p = wFrom) : listI word (word :: t) = some (ns, rest) := by
  obtain ⟨tk, h1, h2, h3, h4⟩ := h
  obtain ⟨e1, e2⟩ := takeWhile_all (q := fun p => decide (p ≠ wFrom)) tk rest (fun p hp => by simpa using h3 p hp) (fun p hp => by simp [hr p hp])
  rw [listI_cons, if_pos rfl]
  rw [h1]
  simp only [e1, e2, if_neg h2, h4, Option.map_some]
theorem listI_nil (word : List UInt8) : listI word [word] = none := by rw [listI_cons]; simp
theorem takeWhile_pre {α : Type} {q : α → Bool} : ∀ (tk rest : List α), (∀ p ∈ tk, q p = true) → (tk ++ rest).takeWhile q = tk ++ rest.takeWhile q
  | [], _, _ => rfl
  | a :: tk, rest, h1 => by
    have ha := h1 a (by simp)
    simp [ha, takeWhile_pre tk rest (fun p hp => h1 p (by simp [hp]))]
theorem listI_bad {word p : List UInt8} {tk r : List (List UInt8)} (h1 : ∀ q ∈ tk, q ≠ wFrom) (hc : canonI p = none) (hp : tk = [] ∨ p ≠ wFrom) : listI word (word :: (tk ++ p :: r)) = none := by
  rw [listI_cons, if_pos rfl]
  rw [takeWhile_pre (q := fun p => decide (p ≠ wFrom)) tk (p :: r) (fun q hq => by simpa using h1 q hq)]
  by_cases hpf : p = wFrom
  · rcases hp with h | h
    · subst h; simp [hpf]
    · exact absurd hpf h
  · have e : (p :: r).takeWhile (fun p => decide (p ≠ wFrom)) = p :: r.takeWhile (fun p => decide (p ≠ wFrom)) := by simp [hpf]
    rw [e, if_neg (by simp), mapM_bad (List.mem_append_right tk List.mem_cons_self) hc]
    rfl
/-- How far a list is: what is left, whether all is right. -/
def LiSt (word : List UInt8) (t : List (List UInt8)) (ok0 ok : Bool) (rest : List (List UInt8)) (ns : List Int) : Prop :=
  (ok = true → ok0 = true ∧ LiTo t rest ns) ∧ (ok = false → ok0 = false ∨ listI word (word :: t) = none) ∧ rest.length < t.length + 1 ∧ (∀ p ∈ rest, p ∈ t) ∧ ns.length + rest.length ≤ t.length + 1
theorem LiSt.start {word : List UInt8} {t : List (List UInt8)} {ok : Bool} {v : Int} (hv : ∀ x, canonI (t.headD []) = some x → v = x) : LiSt word t ok (ok && (canonI (t.headD [])).isSome) t.tail [v] := by
  cases t with
  | nil =>
    refine ⟨fun h => ?_, fun _ => .inr (listI_nil word), by simp, by simp, by simp⟩
    rw [show (canonI (([] : List (List UInt8)).headD [])).isSome = false from by decide, Bool.and_false] at h; cases h
  | cons p r =>
    simp only [List.headD_cons, List.tail_cons] at *
    cases hc : canonI p with
    | none =>
      refine ⟨fun h => by simp at h, fun _ => .inr (listI_bad (tk := []) (by simp) hc (.inl rfl)), by simp; omega, fun q hq => by simp [hq], by simp; omega⟩
    | some x =>
      obtain rfl := hv x hc
      refine ⟨fun h => ⟨by simpa [hc] using h, LiTo.first hc⟩, fun h => .inl (by simpa [hc] using h), by simp; omega, fun q hq => by simp [hq], by simp; omega⟩
theorem LiSt.step {word p : List UInt8} {t r : List (List UInt8)} {ok0 : Bool} {ns : List Int} {v : Int} (h : LiSt word t ok0 true (p :: r) ns) (hp : p ≠ wFrom) (hv : ∀ x, canonI p = some x → v = x) : LiSt word t ok0 (true && (canonI p).isSome) r (ns ++ [v]) := by
  obtain ⟨h1, h2, h3, h4, h5⟩ := h
  obtain ⟨ho, hl⟩ := h1 rfl
  refine ⟨fun h => ?_, fun h => .inr ?_, by simp at h3; omega, fun q hq => h4 q (by simp [hq]), by simp at h5 ⊢; omega⟩
  · cases hc : canonI p with
    | none => rw [hc] at h; cases h
    | some x => obtain rfl := hv x hc; exact ⟨ho, hl.next hp hc⟩
  · cases hc : canonI p with
    | some x => rw [hc] at h; cases h
    | none =>
      obtain ⟨tk, e1, e2, e3, e4⟩ := hl
      rw [e1]
      exact listI_bad e3 hc (.inr hp)
theorem grown_new {a b c : World} {row row2 : Option Nat} (h1 : a.grownBy b row) (h2 : b.grownBy c row2) (hr : ∀ g, row2 = some g → a.heap.size ≤ g) : a.grownBy c row :=
  ⟨h2.os.trans h1.os, h2.tape.trans h1.tape, h2.output.trans h1.output, Nat.le_trans h1.size h2.size, fun k hk hne => (h2.block k (Nat.lt_of_lt_of_le hk h1.size) (fun e => by have := hr k e.symm; omega)).trans (h1.block k hk hne)⟩
theorem TxtsB.far {w w' : World} {B : Nat} {row : Option Nat} {v : Value} {l : List (List UInt8)} (h : TxtsB w B v l) (hg : w.grownBy w' row) (hr : ∀ g, row = some g → B ≤ g) : TxtsB w' B v l := by
  obtain ⟨A, c, h1, h2, h3, h4⟩ := h
  refine ⟨A, c, h1, h2, h3, fun h0 => ?_⟩
  obtain ⟨b, off, a1, a2, a3, a4⟩ := h4 h0
  exact ⟨b, off, a1, a2, Nat.lt_of_lt_of_le a3 hg.size, fun j s hj => hg.cell (a4 j s hj) (by intro e; have := hr b e.symm; omega)⟩
theorem RdrT.far {w w' : World} {rb : Nat} {row : Option Nat} {l : List (List UInt8)} {ok : Bool} (h : RdrT w rb l ok) (hg : w.grownBy w' row) (hr : ∀ g, row = some g → rb < g) : RdrT w' rb l ok := by
  obtain ⟨v, h1, h2⟩ := h
  exact ⟨v, h1.grown hg (by intro e; have := hr rb e.symm; omega), h2.far hg (fun g e => Nat.le_of_lt (hr g e))⟩
theorem gt_mono {B B' : Nat} (h : GT B) (hB : B ≤ B') : GT B' := by
  obtain ⟨a, b, c, d, e, f⟩ := h
  exact ⟨by omega, by omega, by omega, by omega, by omega, by omega⟩
def partsLen (rb : Nat) (w : World) : Nat := match w.cell? ⟨rb, 0, none⟩ with
  | some (.slice _ n _) => n
  | _ => 0
theorem partsLen_eq {w : World} {rb : Nat} {l : List (List UInt8)} {ok : Bool} (h : RdrT w rb l ok) : partsLen rb w = l.length := by
  obtain ⟨v, h1, A, c, rfl, _⟩ := h
  have := h1.cell 0
  simp only [List.getElem?_toArray, List.getElem?_cons_zero] at this
  unfold partsLen; rw [this]
/-- What the reading of a list answers. -/
def ListRet (w : World) (rb : Nat) (word : List UInt8) (l : List (List UInt8)) (ok : Bool) (e : Ending) (w' : World) : Prop :=
  ∃ A c ns l' ok', e = .returned (.slice A ns.length c) ∧ IntsO w' (fun b => w.heap.size ≤ b) (.slice A ns.length c) ns ∧ RStep w rb l' ok' w' ∧ (∀ p ∈ l', p ∈ l) ∧ ns.length + l'.length ≤ l.length + 1 ∧
    (ok' = true → ok = true ∧ listI word l = some (ns, l')) ∧ (ok' = false → ok = false ∨ listI word l = none)

set_option maxRecDepth 100000 in
set_option maxHeartbeats 4000000 in
theorem tlist_rd (rb : Nat) (word : List UInt8) (l : List (List UInt8)) (ok : Bool) (w : World) (h : RdrT w rb l ok) (hp : PT w) (hG : GT rb) (hl : ∀ p ∈ l, p.length ≤ 1000000000) (hll : l.length ≤ 1000000000) :
    Calls Tryd.prog 53 #[.pointer (some ⟨rb, 0, none⟩), .string ⟨word.toArray⟩] w (ListRet w rb word l ok) := by
  have HP := Lib.hid hp
  have HG := Lib.hid hG
  have HLT := Lib.hid h.lt
  have H := Lib.hid h
  have HPL := Lib.hid hl
  obtain ⟨v, hb, A, c, rfl, h1, h2, h3⟩ := h
  have c0 := hb.cell 0
  simp only [List.getElem?_toArray, List.getElem?_cons_zero] at c0
  clear hp hG hl hb
  go_enter Tryd.func53, Tryd.ntmps53
  cases l with
  | nil =>
    clear h3
    go_wp2_with fail
    go_ret
    exact ⟨none, 0, [], [], ok, rfl, ⟨none, 0, rfl, by simp, by simp [maxLen], by simp, by simp⟩, ⟨H.out, below_grownT (Below.refl _ _) _⟩, by simp, by simp, fun h => ⟨h, rfl⟩, fun h => .inl h⟩
  | cons p t =>
    obtain ⟨b, off, rfl, hb1, hb2, hc⟩ := h3 (by simp)
    have cp := hc 0 p rfl
    rw [Nat.add_zero] at cp
    have hn0 : 0 < (p :: t).length := by simp
    have q1 : (((p :: t).length : Int) == 0) = false := by rw [beq_eq_false_iff_ne]; simp; omega
    clear hc h3
    by_cases hpw : p = word
    · subst hpw
      have HTL : Hid (t.length ≤ 1000000000) := Lib.hid (by simp at hll; omega)
      have HPT : Hid (∀ q ∈ t, q.length ≤ 1000000000) := Lib.hid (fun q hq => HPL.out q (by simp [hq]))
      generalize hn : (p :: t).length = n at *
      clear hn hll
      clear h1 h2
      go_wp2_with fail
      refine (tnext_any rb (p :: t) ok w H.out).mono ?_
      rintro e w2 ⟨rfl, hr2, hg2⟩
      have HR2 : Hid (RdrT w2 rb t ok) := Lib.hid (by simpa using hr2)
      have HG2 := Lib.hid hg2
      have HP2 := Lib.hid (HP.out.step hg2 HG.out HLT.out)
      clear hr2 hg2 c0 cp
      go_wp2_with fail
      refine (tint_rd rb t ok w2 HR2.out HP2.out HG.out HPT.out).mono ?_
      rintro e w3 ⟨v, rfl, hv, hcv, hr3, hg3⟩
      have HV := Lib.hid hv
      have HR3 := Lib.hid hr3
      have HG3 := Lib.hid (grownBy_trans HG2.out hg3)
      have HP3 := Lib.hid (HP2.out.step hg3 HG.out HR2.out.lt)
      have HST := Lib.hid (LiSt.start (word := p) (ok := ok) hcv)
      have HO4 := Lib.hid (own_new w3 v HV.out)
      have hb4 : Below w3.heap.size w3 (w3.alloc (.cells #[.int .i64 v] 3)) := (Below.refl _ _).alloc (Nat.le_refl _) _
      have HR4 := Lib.hid (HR3.out.keep hb4)
      have HG4 := Lib.hid (grownBy_trans HG3.out (below_grownT hb4 (some rb)))
      have HP4 := Lib.hid (HP3.out.below hb4)
      have HS3 : Hid (rb < w3.heap.size ∧ w.heap.size ≤ w3.heap.size) := Lib.hid ⟨HR3.out.lt, HG3.out.size⟩
      clear hv hr3 hg3 hcv hb4
      go_wp2_with fail
      generalize w3.alloc (.cells #[.int .i64 v] 3) = w4 at *
      generalize (ok && (canonI (t.headD [])).isSome) = ok4 at *
      generalize t.tail = rest4 at *
      obtain ⟨iI, hiI, hzI0, hzI1, hzI2⟩ := info_parts info_int
      go_loopw [5] (fun lv wr => ∃ (ns : List Int) (rest : List (List UInt8)) (okk : Bool), Hid (Own wr w3.heap.size lv ns) ∧ Hid (RdrT wr rb rest okk) ∧ Hid (w.grownBy wr (some rb)) ∧ Hid (LiSt p t ok okk rest ns) ∧ Hid (PT wr)) (fun _ wr => partsLen rb wr)
      case atStart => exact ⟨_, _, _, HO4, HR4, HG4, HST, HP4⟩
      case round =>
        clear HO4 HR4 HG4 HST HP4 HP3 HR3 HG3 HR2 HG2 HP2
        obtain ⟨ns, rest, okk, HO, HR, HGW, HST, HPW⟩ := hrel
        obtain ⟨wo, hwo⟩ : ∃ wo : World, wo = wr := ⟨_, rfl⟩
        rw [← hwo] at HO HR HGW HPW ⊢
        clear hwo
        obtain ⟨Ao, co, eo, -, -, -⟩ := owns_rd HO.out.1
        subst eo
        have HPLN := Lib.hid (partsLen_eq HR.out)
        obtain ⟨vr, hbk, A2, c2, rfl, g1, g2, g3⟩ := HR.out
        have d0 := hbk.cell 0
        have d1 := hbk.cell 1
        simp only [List.getElem?_toArray, List.getElem?_cons_zero, List.getElem?_cons_succ] at d0 d1
        clear hbk
        have HEND : Hid (∀ (hx : okk = true → ∀ q, rest.head? = some q → q = wFrom), ListRet w rb p (p :: t) ok (.returned (.slice Ao ns.length co)) wo) := Lib.hid (fun hx => by
          obtain ⟨k1, k2, k3, k4, k5⟩ := HST.out
          exact ⟨Ao, co, ns, rest, okk, rfl, HO.out.intsO (fun b hb _ _ => by have := HS3.out.2; omega), ⟨HR.out, HGW.out⟩, fun q hq => by simp [k4 q hq], by simp; omega, fun h => ⟨(k1 h).1, (k1 h).2.done (hx h)⟩, k2⟩)
        cases okk with
        | false =>
          go_wp2_with fail
          go_ret
          exact HEND.out (fun h => by cases h)
        | true =>
          cases rest with
          | nil =>
            clear g3
            go_wp2_with fail
            go_ret
            exact HEND.out (fun _ q hq => by cases hq)
          | cons q r =>
            obtain ⟨b2, off2, rfl, -, hb3, hcq⟩ := g3 (by simp)
            have dq := hcq 0 q rfl
            rw [Nat.add_zero] at dq
            have hm0 : 0 < (q :: r).length := by simp
            have hm1 : ((q :: r).length : Int) > 0 := by simp
            clear hcq g3
            by_cases hqf : q = wFrom
            · have q5 : (q == [102, 114, 111, 109]) = true := by rw [beq_iff_eq]; exact hqf
              have HE2 := Lib.hid (HEND.out (fun _ q2 hq2 => by injection hq2 with hq2; rw [← hq2]; exact hqf))
              clear HEND hqf
              generalize (q :: r).length = m at *
              go_wp2_with fail
              go_ret
              exact HE2.out
            · have q5 : (q == [102, 114, 111, 109]) = false := by rw [beq_eq_false_iff_ne]; exact hqf
              have HQF := Lib.hid hqf
              have HIC := Lib.hid (tint_rd rb (q :: r) true wo HR.out HPW.out HG.out (fun y hy => HPT.out y (HST.out.2.2.2.1 y hy)))
              clear HEND hqf
              generalize hm : (q :: r).length = m at *
              have HM := Lib.hid hm
              clear hm
              go_wp2_with fail
              refine HIC.out.mono ?_
              rintro e w6 ⟨v6, rfl, hv6, hcv6, hr6, hg6⟩
              have HO6 := Lib.hid (HO.out.grown hg6 HS3.out.1)
              have HR6 : Hid (RdrT w6 rb r (true && (canonI q).isSome)) := Lib.hid hr6
              have HG6 := Lib.hid (grownBy_trans HGW.out hg6)
              have HP6 := Lib.hid (HPW.out.step hg6 HG.out HR.out.lt)
              have HST6 := Lib.hid (HST.out.step HQF.out hcv6)
              have HV6 := Lib.hid hv6
              have HNL : Hid (ns.length ≤ 2000000000) := Lib.hid (by have := HST.out.2.2.2.2; have := HTL.out; omega)
              have HSZ6 : Hid (w3.heap.size ≤ w6.heap.size) := Lib.hid (Nat.le_trans (by
                rcases HO.out.1.2 with ⟨e1, e2⟩ | ⟨g, cap, cur, e1, e2, e3, _⟩
                · exact absurd HST.out.1 (fun hh => by
                    obtain ⟨tk, x1, x2, x3, x4⟩ := (hh rfl).2
                    have := mapM_len x4
                    cases tk with
                    | nil => exact x2 rfl
                    | cons _ _ => simp at this; omega)
                · have := (Array.getElem?_eq_some_iff.1 e3).1; omega) hg6.size)
              clear hr6 hg6 hcv6 hv6 d0 d1 dq
              go_wp2_with (at_builtin; refine wpList_append_own_at _ rfl _ _ 51 rfl w3.heap.size 3 iI (.int .i64 0) 1 8 Tryd.underlying51 hiI hzI0 hzI1 hzI2 rfl (by decide) _ _ _ rfl (HO6.out.1.alloc _) ⟨w6.heap.size, 0, none⟩ 1 1 [.int .i64 v6] rfl rfl (one_at w6 _ _) ?a2 ?a3 ?a4 ?a5 ?_)
              case a2 => intro u hu; simp at hu; subst hu; rfl
              case a3 => have := HNL.out; unfold maxLen; omega
              case a4 => have := HNL.out; omega
              case a5 => have := HSZ6.out; simp; omega
              intro v7 w7 hown hgrow _ hat
              have HO7 : Hid (Own w7 w3.heap.size v7 (ns ++ [v6])) := Lib.hid ⟨by simpa using hown, fun z hz => by
                rcases List.mem_append.1 hz with hz | hz
                · exact HO6.out.2 z hz
                · rw [List.mem_singleton] at hz; subst hz; exact HV6.out⟩
              have hga : w6.grownBy w7 (Value.slice Ao ns.length co).ownBlock := by
                have h1 := grownBy_trans (World.grownBy_alloc w6 (.cells #[.int .i64 v6] 3) (Value.slice Ao ns.length co).ownBlock) hgrow
                exact h1
              have hob : ∀ g, (Value.slice Ao ns.length co).ownBlock = some g → w3.heap.size ≤ g := fun g e => (HO6.out.1.lt g e).1
              have HG7 := Lib.hid (grown_new HG6.out hga (fun g e => by have := hob g e; have := HS3.out.2; omega))
              have HR7 : Hid (RdrT w7 rb r (true && (canonI q).isSome)) := Lib.hid (HR6.out.far hga (fun g e => by have := hob g e; have := HS3.out.1; omega))
              have HP7 := Lib.hid (HP6.out.keep (grownBy_below hga (by exact HSZ6.out) (fun g e => hob g e)) (by have := HP.out; exact gt_mono HG.out (by have := HS3.out.1; omega)))
              obtain ⟨A7, c7, e7, -, -, -⟩ := owns_rd hown
              subst e7
              clear hown hgrow hat hga hob
              go_wp2_with fail
              go_roundw
              case rel => exact ⟨_, _, _, HO7, HR7, HG7, HST6, HP7⟩
              case measure => rw [HPLN.out, partsLen_eq HR7.out]; have := HM.out; simp at this; omega
    · have q2 : (p == word) = false := by rw [beq_eq_false_iff_ne]; exact hpw
      have HNW : Hid (listI word (p :: t) = some ([], p :: t)) := Lib.hid (by rw [listI_cons, if_neg hpw])
      generalize hn : (p :: t).length = n at *
      clear hn hpw
      go_wp2_with fail
      go_ret
      refine ⟨none, 0, [], p :: t, ok, rfl, ⟨none, 0, rfl, by simp, by simp [maxLen], by simp, by simp⟩, ⟨H.out, below_grownT (Below.refl _ _) _⟩, fun q hq => hq, by simp, fun h => ⟨h, HNW.out⟩, fun h => .inl h⟩
end Go.Proofs.YtmnjmegejaejlaaDoor
