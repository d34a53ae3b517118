/-
  WALK: (*trace.reader).event.
-/
import Derived.Test.YtmnjmegejaejlaaDoorTT14
namespace Go.Proofs.YtmnjmegejaejlaaDoor
open Go.RowKit

def Evn.val (e : Evn) (dv fv : Value) : Value := .agg #[.int .i64 e.thread, .int .i64 e.kind, .int .i64 e.obj, .int .i64 e.value, .int .i64 e.site, dv, fv]
def Evn.ok (e : Evn) : Prop := I64 e.thread ∧ I64 e.kind ∧ I64 e.obj ∧ I64 e.value ∧ I64 e.site
theorem eventI_cons (a k o v s : List UInt8) (rest : List (List UInt8)) : eventI (a :: k :: o :: v :: s :: rest) = (match canonI a, kindI k, canonI o, canonI v, canonI s, restI rest with
    | some x, some j, some y, some z, some u, some p => some ⟨x, j, y, z, u, p.1, p.2⟩
    | _, _, _, _, _, _ => none) := rfl
/-- What five parts and two lists are read as. -/
theorem eventI_some {l l6 l7 : List (List UInt8)} {x j y z u : Int} {k : Nat} {dns fns : List Int} (hj : j = (k : Int))
    (h0 : canonI (l.headD []) = some x) (h1 : kindI (l.tail.headD []) = some k) (h2 : canonI (l.tail.tail.headD []) = some y) (h3 : canonI (l.tail.tail.tail.headD []) = some z) (h4 : canonI (l.tail.tail.tail.tail.headD []) = some u)
    (h5 : listI wDeps l.tail.tail.tail.tail.tail = some (dns, l6)) (h6 : listI wFrom l6 = some (fns, l7)) (h7 : l7 = []) : eventI l = some ⟨x, j, y, z, u, dns, fns⟩ := by
  have hc : canonI [] = none := by decide
  have hk : kindI [] = none := by decide
  match l, h0, h1, h2, h3, h4, h5 with
  | [], h0, _, _, _, _, _ => rw [show (([] : List (List UInt8)).headD []) = [] from rfl, hc] at h0; cases h0
  | [a], _, h1, _, _, _, _ => rw [show (([a] : List (List UInt8)).tail.headD []) = [] from rfl, hk] at h1; cases h1
  | [a, b], _, _, h2, _, _, _ => rw [show (([a, b] : List (List UInt8)).tail.tail.headD []) = [] from rfl, hc] at h2; cases h2
  | [a, b, c], _, _, _, h3, _, _ => rw [show (([a, b, c] : List (List UInt8)).tail.tail.tail.headD []) = [] from rfl, hc] at h3; cases h3
  | [a, b, c, d], _, _, _, _, h4, _ => rw [show (([a, b, c, d] : List (List UInt8)).tail.tail.tail.tail.headD []) = [] from rfl, hc] at h4; cases h4
  | a :: b :: c :: d :: f :: rest, h0, h1, h2, h3, h4, h5 =>
    simp only [List.headD_cons, List.tail_cons] at h0 h1 h2 h3 h4 h5
    have hr : restI rest = some (dns, fns) := by
      unfold restI
      rw [h5]
      simp [h6, h7]
    simp only [eventI, h0, h1, h2, h3, h4, hr, hj]
theorem eventI_inv {l : List (List UInt8)} {e : Evn} (h : eventI l = some e) : ∃ x k y z u dns fns l6, canonI (l.headD []) = some x ∧ kindI (l.tail.headD []) = some k ∧ canonI (l.tail.tail.headD []) = some y ∧ canonI (l.tail.tail.tail.headD []) = some z ∧ canonI (l.tail.tail.tail.tail.headD []) = some u ∧
    listI wDeps l.tail.tail.tail.tail.tail = some (dns, l6) ∧ listI wFrom l6 = some (fns, []) := by
  rcases l with _ | ⟨a, _ | ⟨b, _ | ⟨c, _ | ⟨d, _ | ⟨f, rest⟩⟩⟩⟩⟩
  · cases h
  · cases h
  · cases h
  · cases h
  · cases h
  · simp only [List.headD_cons, List.tail_cons]
    rw [eventI_cons] at h
    cases q0 : canonI a with
    | none => rw [q0] at h; simp at h
    | some x =>
      cases q1 : kindI b with
      | none => rw [q0, q1] at h; simp at h
      | some k =>
        cases q2 : canonI c with
        | none => rw [q0, q1, q2] at h; simp at h
        | some y =>
          cases q3 : canonI d with
          | none => rw [q0, q1, q2, q3] at h; simp at h
          | some z =>
            cases q4 : canonI f with
            | none => rw [q0, q1, q2, q3, q4] at h; simp at h
            | some u =>
              cases q5 : restI rest with
              | none => rw [q0, q1, q2, q3, q4, q5] at h; simp at h
              | some p =>
                unfold restI at q5
                cases e1 : listI wDeps rest with
                | none => rw [e1] at q5; simp at q5
                | some r1 =>
                  rw [e1] at q5
                  simp only [Option.bind_some] at q5
                  cases e2 : listI wFrom r1.2 with
                  | none => rw [e2] at q5; simp at q5
                  | some r2 =>
                    rw [e2] at q5
                    simp only [Option.bind_some] at q5
                    split at q5
                    · rename_i h0
                      exact ⟨x, k, y, z, u, r1.1, r2.1, r1.2, rfl, rfl, rfl, rfl, rfl, rfl, by rw [e2, ← h0]⟩
                    · cases q5
/-- What the reading of an event answers. -/
def EvRet (w : World) (rb : Nat) (l : List (List UInt8)) (ok : Bool) (e : Ending) (w' : World) : Prop :=
  ∃ (ev : Evn) (dv fv : Value) (l' : List (List UInt8)) (ok' : Bool), e = .returned (Evn.val ev dv fv) ∧ ev.ok ∧ IntsO w' (fun b => w.heap.size ≤ b) dv ev.deps ∧ IntsO w' (fun b => w.heap.size ≤ b) fv ev.frm ∧ RStep w rb l' ok' w' ∧
    (ok' = true → l' = [] → ok = true ∧ eventI l = some ev) ∧ ((ok' = false ∨ l' ≠ []) → ok = false ∨ eventI l = none)
theorem evRet_plain {l l6 l7 : List (List UInt8)} {ok ok6 ok7 : Bool} {x y z u : Int} {k : Nat} {dns fns : List Int}
    (h0 : ∀ a, canonI (l.headD []) = some a → x = a) (h1 : ∀ a, kindI (l.tail.headD []) = some a → k = a) (h2 : ∀ a, canonI (l.tail.tail.headD []) = some a → y = a) (h3 : ∀ a, canonI (l.tail.tail.tail.headD []) = some a → z = a) (h4 : ∀ a, canonI (l.tail.tail.tail.tail.headD []) = some a → u = a)
    (h6 : ok6 = true → (((((ok && (canonI (l.headD [])).isSome) && (kindI (l.tail.headD [])).isSome) && (canonI (l.tail.tail.headD [])).isSome) && (canonI (l.tail.tail.tail.headD [])).isSome) && (canonI (l.tail.tail.tail.tail.headD [])).isSome) = true ∧ listI wDeps l.tail.tail.tail.tail.tail = some (dns, l6))
    (h6' : ok6 = false → (((((ok && (canonI (l.headD [])).isSome) && (kindI (l.tail.headD [])).isSome) && (canonI (l.tail.tail.headD [])).isSome) && (canonI (l.tail.tail.tail.headD [])).isSome) && (canonI (l.tail.tail.tail.tail.headD [])).isSome) = false ∨ listI wDeps l.tail.tail.tail.tail.tail = none)
    (h7 : ok7 = true → ok6 = true ∧ listI wFrom l6 = some (fns, l7)) (h7' : ok7 = false → ok6 = false ∨ listI wFrom l6 = none) :
    (ok7 = true → l7 = [] → ok = true ∧ eventI l = some ⟨x, (k : Int), y, z, u, dns, fns⟩) ∧ ((ok7 = false ∨ l7 ≠ []) → ok = false ∨ eventI l = none) := by
  refine ⟨fun a b => ?_, fun a => ?_⟩
  · obtain ⟨c1, c2⟩ := h7 a
    obtain ⟨d1, d2⟩ := h6 c1
    simp only [Bool.and_eq_true] at d1
    obtain ⟨⟨⟨⟨⟨e0, e1⟩, e2⟩, e3⟩, e4⟩, e5⟩ := d1
    obtain ⟨x', f1⟩ := Option.isSome_iff_exists.1 e1
    obtain ⟨k', f2⟩ := Option.isSome_iff_exists.1 e2
    obtain ⟨y', f3⟩ := Option.isSome_iff_exists.1 e3
    obtain ⟨z', f4⟩ := Option.isSome_iff_exists.1 e4
    obtain ⟨u', f5⟩ := Option.isSome_iff_exists.1 e5
    obtain rfl := h0 _ f1
    obtain rfl := h1 _ f2
    obtain rfl := h2 _ f3
    obtain rfl := h3 _ f4
    obtain rfl := h4 _ f5
    exact ⟨e0, eventI_some rfl f1 f2 f3 f4 f5 d2 c2 b⟩
  · cases hok : ok with
    | false => exact .inl rfl
    | true =>
      right
      cases he : eventI l with
      | none => rfl
      | some ev =>
        exfalso
        obtain ⟨x', k', y', z', u', dns', fns', l6', f1, f2, f3, f4, f5, g1, g2⟩ := eventI_inv he
        have h5 : (((((ok && (canonI (l.headD [])).isSome) && (kindI (l.tail.headD [])).isSome) && (canonI (l.tail.tail.headD [])).isSome) && (canonI (l.tail.tail.tail.headD [])).isSome) && (canonI (l.tail.tail.tail.tail.headD [])).isSome) = true := by
          rw [hok, f1, f2, f3, f4, f5]; rfl
        have hk6 : ok6 = true := by
          cases e : ok6 with
          | true => rfl
          | false =>
            rcases h6' e with e | e
            · rw [h5] at e; cases e
            · rw [g1] at e; cases e
        obtain ⟨_, d2⟩ := h6 hk6
        rw [g1] at d2
        injection d2 with d2
        injection d2 with d2 d3
        have hk7 : ok7 = true := by
          cases e : ok7 with
          | true => rfl
          | false =>
            rcases h7' e with e | e
            · rw [hk6] at e; cases e
            · rw [← d3, g2] at e; cases e
        obtain ⟨_, c2⟩ := h7 hk7
        rw [← d3, g2] at c2
        injection c2 with c2
        injection c2 with _ c2
        rcases a with a | a
        · rw [hk7] at a; cases a
        · exact a c2.symm
theorem tail_len {l : List (List UInt8)} (h : ∀ p ∈ l, p.length ≤ 1000000000) : ∀ p ∈ l.tail, p.length ≤ 1000000000 := fun p hp => h p (List.mem_of_mem_tail hp)
def zEv : Array Value := #[.int .i64 0, .int .i64 0, .int .i64 0, .int .i64 0, .int .i64 0, .slice none 0 0, .slice none 0 0]
def set7 (w : World) (g : Nat) (v0 v1 v2 v3 v4 v5 v6 : Value) : World := ((((((w.setCell ⟨g, 0, none⟩ v0).setCell ⟨g, 1, none⟩ v1).setCell ⟨g, 2, none⟩ v2).setCell ⟨g, 3, none⟩ v3).setCell ⟨g, 4, none⟩ v4).setCell ⟨g, 5, none⟩ v5).setCell ⟨g, 6, none⟩ v6
set_option maxHeartbeats 2000000 in
theorem blk_set7 {w : World} {g : Nat} {t : TypeId} {u0 u1 u2 u3 u4 u5 u6 : Value} (h : Blk w g t #[u0, u1, u2, u3, u4, u5, u6]) (v0 v1 v2 v3 v4 v5 v6 : Value) : Blk (set7 w g v0 v1 v2 v3 v4 v5 v6) g t #[v0, v1, v2, v3, v4, v5, v6] :=
  ((((((h.set_ 0 v0).set_ 1 v1).set_ 2 v2).set_ 3 v3).set_ 4 v4).set_ 5 v5).set_ 6 v6
theorem grown_set7 (w : World) (g : Nat) (v0 v1 v2 v3 v4 v5 v6 : Value) : w.grownBy (set7 w g v0 v1 v2 v3 v4 v5 v6) (some g) :=
  grownBy_trans (grownBy_trans (grownBy_trans (grownBy_trans (grownBy_trans (grownBy_trans (grownBy_set0 _ _ _ _) (grownBy_set0 _ _ _ _)) (grownBy_set0 _ _ _ _)) (grownBy_set0 _ _ _ _)) (grownBy_set0 _ _ _ _)) (grownBy_set0 _ _ _ _)) (grownBy_set0 _ _ _ _)
set_option maxRecDepth 100000 in
set_option maxHeartbeats 8000000 in
theorem tevent_rd (rb : Nat) (l : List (List UInt8)) (ok : Bool) (w : World) (h : RdrT w rb l ok) (hp : PT w) (hG : GT rb) (hl : ∀ p ∈ l, p.length ≤ 1000000000) (hll : l.length ≤ 1000000000) :
    Calls Tryd.prog 35 #[.pointer (some ⟨rb, 0, none⟩)] w (EvRet w rb l ok) := by
  have HG := Lib.hid hG
  have HLT := Lib.hid h.lt
  have HL0 := Lib.hid hl
  have HL1 := Lib.hid (tail_len hl)
  have HL2 := Lib.hid (tail_len HL1.out)
  have HL3 := Lib.hid (tail_len HL2.out)
  have HL4 := Lib.hid (tail_len HL3.out)
  have HL5 := Lib.hid (tail_len HL4.out)
  have HN5 : Hid (l.tail.tail.tail.tail.tail.length ≤ 1000000000) := Lib.hid (by simp; omega)
  have HN5b : Hid (l.tail.tail.tail.tail.tail.length + 1 ≤ 1000000000) := Lib.hid (by simp; omega)
  have hb0 : Below w.heap.size w (w.alloc (.cells #[.int .i64 0, .int .i64 0, .int .i64 0, .int .i64 0, .int .i64 0, .slice none 0 0, .slice none 0 0] 53)) := (Below.refl _ _).alloc (Nat.le_refl _) _
  have HE0 := Lib.hid (Blk.new w 53 #[.int .i64 0, .int .i64 0, .int .i64 0, .int .i64 0, .int .i64 0, .slice none 0 0, .slice none 0 0])
  have HR0 := Lib.hid (h.keep hb0)
  have HP0 := Lib.hid (hp.below hb0)
  have HG0 : Hid (w.grownBy (w.alloc (.cells #[.int .i64 0, .int .i64 0, .int .i64 0, .int .i64 0, .int .i64 0, .slice none 0 0, .slice none 0 0] 53)) (some rb)) := Lib.hid (below_grownT hb0 _)
  clear h hp hG hl hll hb0
  go_enter Tryd.func35, Tryd.ntmps35
  go_wp2_with fail
  generalize w.alloc (.cells #[.int .i64 0, .int .i64 0, .int .i64 0, .int .i64 0, .int .i64 0, .slice none 0 0, .slice none 0 0] 53) = w0 at *
  refine (tint_rd rb l (ok) w0 HR0.out HP0.out HG.out HL0.out).mono ?_
  rintro e w1 ⟨x, rfl, hi, hc, hr, hg⟩
  have HI0 := Lib.hid hi
  have HC0 := Lib.hid hc
  have HR1 := Lib.hid hr
  have HG1 := Lib.hid (grownBy_trans HG0.out hg)
  have HP1 := Lib.hid (HP0.out.step hg HG.out HR0.out.lt)
  have HE1 := Lib.hid (HE0.out.grown hg (by intro e; injection e with e; have := HLT.out; omega))
  clear hi hc hr hg
  go_wp2_with fail
  refine (tkind_rd rb (l.tail) ((ok && (canonI (l.headD [])).isSome)) w1 HR1.out HP1.out HG.out).mono ?_
  rintro e w2 ⟨k, rfl, hi, hc, hr, hg⟩
  have HI1 : Hid (I64 (k : Int)) := Lib.hid (by unfold I64; omega)
  have HC1 := Lib.hid hc
  have HR2 := Lib.hid hr
  have HG2 := Lib.hid (grownBy_trans HG1.out hg)
  have HP2 := Lib.hid (HP1.out.step hg HG.out HR1.out.lt)
  have HE2 := Lib.hid (HE1.out.grown hg (by intro e; injection e with e; have := HLT.out; omega))
  clear hi hc hr hg
  go_wp2_with fail
  refine (tint_rd rb (l.tail.tail) (((ok && (canonI (l.headD [])).isSome) && (kindI (l.tail.headD [])).isSome)) w2 HR2.out HP2.out HG.out HL2.out).mono ?_
  rintro e w3 ⟨y, rfl, hi, hc, hr, hg⟩
  have HI2 := Lib.hid hi
  have HC2 := Lib.hid hc
  have HR3 := Lib.hid hr
  have HG3 := Lib.hid (grownBy_trans HG2.out hg)
  have HP3 := Lib.hid (HP2.out.step hg HG.out HR2.out.lt)
  have HE3 := Lib.hid (HE2.out.grown hg (by intro e; injection e with e; have := HLT.out; omega))
  clear hi hc hr hg
  go_wp2_with fail
  refine (tnum_rd rb (l.tail.tail.tail) ((((ok && (canonI (l.headD [])).isSome) && (kindI (l.tail.headD [])).isSome) && (canonI (l.tail.tail.headD [])).isSome)) w3 HR3.out HP3.out HG.out HL3.out).mono ?_
  rintro e w4 ⟨z, rfl, hi, hc, hr, hg⟩
  have HI3 := Lib.hid hi
  have HC3 := Lib.hid hc
  have HR4 := Lib.hid hr
  have HG4 := Lib.hid (grownBy_trans HG3.out hg)
  have HP4 := Lib.hid (HP3.out.step hg HG.out HR3.out.lt)
  have HE4 := Lib.hid (HE3.out.grown hg (by intro e; injection e with e; have := HLT.out; omega))
  clear hi hc hr hg
  go_wp2_with fail
  refine (tint_rd rb (l.tail.tail.tail.tail) (((((ok && (canonI (l.headD [])).isSome) && (kindI (l.tail.headD [])).isSome) && (canonI (l.tail.tail.headD [])).isSome) && (canonI (l.tail.tail.tail.headD [])).isSome)) w4 HR4.out HP4.out HG.out HL4.out).mono ?_
  rintro e w5 ⟨u, rfl, hi, hc, hr, hg⟩
  have HI4 := Lib.hid hi
  have HC4 := Lib.hid hc
  have HR5 := Lib.hid hr
  have HG5 := Lib.hid (grownBy_trans HG4.out hg)
  have HP5 := Lib.hid (HP4.out.step hg HG.out HR4.out.lt)
  have HE5 := Lib.hid (HE4.out.grown hg (by intro e; injection e with e; have := HLT.out; omega))
  clear hi hc hr hg
  have HS5 : Hid (rb < w5.heap.size ∧ w.heap.size < w5.heap.size) := Lib.hid ⟨HR5.out.lt, HE5.out.lt⟩
  have hb6 : Below w5.heap.size w5 (w5.alloc (.cells #[.int .i64 x, .int .i64 (k : Int), .int .i64 y, .int .i64 z, .int .i64 u, .slice none 0 0, .slice none 0 0] 53)) := (Below.refl _ _).alloc (Nat.le_refl _) _
  have HB6 := Lib.hid (Blk.new w5 53 #[.int .i64 x, .int .i64 (k : Int), .int .i64 y, .int .i64 z, .int .i64 u, .slice none 0 0, .slice none 0 0])
  have HR6 := Lib.hid (HR5.out.keep hb6)
  have HG6 := Lib.hid (grownBy_trans HG5.out (below_grownT hb6 (some rb)))
  have HP6 := Lib.hid (HP5.out.below hb6)
  have HE6 := Lib.hid (HE5.out.keep hb6)
  clear hb6
  go_wp2_with fail
  generalize w5.alloc (.cells #[.int .i64 x, .int .i64 (k : Int), .int .i64 y, .int .i64 z, .int .i64 u, .slice none 0 0, .slice none 0 0] 53) = w6 at *
  obtain ⟨sb, hsb⟩ : ∃ sb, w5.heap.size = sb := ⟨_, rfl⟩
  have HSB : Hid (rb < sb ∧ w.heap.size < sb ∧ sb < w6.heap.size) := Lib.hid ⟨by rw [← hsb]; exact HS5.out.1, by rw [← hsb]; exact HS5.out.2, by rw [← hsb]; exact HB6.out.lt⟩
  rw [hsb] at HB6 ⊢
  clear hsb
  refine (tlist_rd rb wDeps _ _ w6 HR6.out HP6.out HG.out HL5.out HN5.out).mono ?_
  rintro e w7 ⟨A7, c7, dns, l6, ok6, rfl, hi7, ⟨hr7, hg7⟩, hm7, hn7, hx7, hy7⟩
  have HR7 := Lib.hid hr7
  have HG7 := Lib.hid (grownBy_trans HG6.out hg7)
  have HP7 := Lib.hid (HP6.out.step hg7 HG.out HR6.out.lt)
  have HE7 := Lib.hid (HE6.out.grown hg7 (by intro e; injection e with e; have := HLT.out; omega))
  have HB7 := Lib.hid (HB6.out.grown hg7 (by intro e; injection e with e; have := HSB.out.1; omega))
  have HD7 := Lib.hid hi7
  have HX7 := Lib.hid hx7
  have HY7 := Lib.hid hy7
  have HL6 : Hid (∀ p ∈ l6, p.length ≤ 1000000000) := Lib.hid (fun p hp => HL5.out p (hm7 p hp))
  have HN6 : Hid (l6.length ≤ 1000000000) := Lib.hid (by have := HN5b.out; omega)
  have HS7 : Hid (w6.heap.size ≤ w7.heap.size) := Lib.hid hg7.size
  clear hr7 hg7 hi7 hm7 hn7 hx7 hy7
  have c5 := HB7.out.cell 5
  have z5 := HB7.out.frozen 5
  simp only [List.getElem?_toArray, List.getElem?_cons_zero, List.getElem?_cons_succ] at c5
  have HB8 := Lib.hid (HB7.out.set_ 5 (.slice A7 dns.length c7))
  have hs8 : w7.grownBy (w7.setCell ⟨sb, 5, none⟩ (.slice A7 dns.length c7)) (some sb) := grownBy_set0 _ _ _ _
  have HR8 := Lib.hid (HR7.out.far hs8 (fun g e => by injection e with e; have := HSB.out.1; omega))
  have HG8 := Lib.hid (grown_new HG7.out hs8 (fun g e => by injection e with e; have := HSB.out.2.1; omega))
  have HP8 := Lib.hid (HP7.out.keep (grownBy_below (B := rb) hs8 (by have := HR7.out.lt; omega) (fun g e => by injection e with e; have := HSB.out.1; omega)) HG.out)
  have HE8 := Lib.hid (HE7.out.grown hs8 (by intro e; injection e with e; have := HSB.out.2.1; omega))
  have HD8 := Lib.hid (HD7.out.grown hs8 (fun b hb e => by injection e with e; have := HSB.out.2.2; omega))
  have HS8 : Hid (w6.heap.size ≤ (w7.setCell ⟨sb, 5, none⟩ (.slice A7 dns.length c7)).heap.size) := Lib.hid (Nat.le_trans HS7.out hs8.size)
  clear hs8
  go_wp2_with fail
  clear c5 z5
  generalize w7.setCell ⟨sb, 5, none⟩ (.slice A7 dns.length c7) = w8 at *
  refine (tlist_rd rb wFrom l6 ok6 w8 HR8.out HP8.out HG.out HL6.out HN6.out).mono ?_
  rintro e w9 ⟨A9, c9, fns, l7, ok7, rfl, hi9, ⟨hr9, hg9⟩, hm9, hn9, hx9, hy9⟩
  have HR9 := Lib.hid hr9
  have HG9 := Lib.hid (grownBy_trans HG8.out hg9)
  have HE9 := Lib.hid (HE8.out.grown hg9 (by intro e; injection e with e; have := HLT.out; omega))
  have HB9 := Lib.hid (HB8.out.grown hg9 (by intro e; injection e with e; have := HSB.out.1; omega))
  have HD9 := Lib.hid (HD8.out.grown hg9 (fun b hb e => by injection e with e; have := HSB.out; omega))
  have HF9 := Lib.hid hi9
  have HEV := Lib.hid (evRet_plain HC0.out HC1.out HC2.out HC3.out HC4.out HX7.out HY7.out hx9 hy9)
  clear hr9 hg9 hi9 hm9 hn9 hx9 hy9
  have c6 := HB9.out.cell 6
  have z6 := HB9.out.frozen 6
  simp only [List.getElem?_toArray, List.getElem?_cons_zero, List.getElem?_cons_succ, Array.getElem?_setIfInBounds] at c6
  have c6 : w9.cell? ⟨sb, 6, none⟩ = some (.slice none 0 0) := by simpa using c6
  have HB10 : Hid (Blk (w9.setCell ⟨sb, 6, none⟩ (.slice A9 fns.length c9)) sb 53 #[.int .i64 x, .int .i64 (k : Int), .int .i64 y, .int .i64 z, .int .i64 u, .slice A7 dns.length c7, .slice A9 fns.length c9]) := Lib.hid (HB9.out.set_ 6 (.slice A9 fns.length c9))
  have hs10 : w9.grownBy (w9.setCell ⟨sb, 6, none⟩ (.slice A9 fns.length c9)) (some sb) := grownBy_set0 _ _ _ _
  have HR10 := Lib.hid (HR9.out.far hs10 (fun g e => by injection e with e; have := HSB.out.1; omega))
  have HG10 := Lib.hid (grown_new HG9.out hs10 (fun g e => by injection e with e; have := HSB.out.2.1; omega))
  have HE10 := Lib.hid (HE9.out.grown hs10 (by intro e; injection e with e; have := HSB.out.2.1; omega))
  have HD10 := Lib.hid (HD9.out.grown hs10 (fun b hb e => by injection e with e; have := HSB.out.2.2; omega))
  have HF10 := Lib.hid (HF9.out.grown hs10 (fun b hb e => by injection e with e; have := HSB.out.2.2; have := HS8.out; omega))
  clear hs10
  have b0 := HB10.out.cell 0
  have b1 := HB10.out.cell 1
  have b2 := HB10.out.cell 2
  have b3 := HB10.out.cell 3
  have b4 := HB10.out.cell 4
  have b5 := HB10.out.cell 5
  have b6 := HB10.out.cell 6
  have e0 := HE10.out.cell 0
  have e1 := HE10.out.cell 1
  have e2 := HE10.out.cell 2
  have e3 := HE10.out.cell 3
  have e4 := HE10.out.cell 4
  have e5 := HE10.out.cell 5
  have e6 := HE10.out.cell 6
  have y0 := HE10.out.frozen 0
  have y1 := HE10.out.frozen 1
  have y2 := HE10.out.frozen 2
  have y3 := HE10.out.frozen 3
  have y4 := HE10.out.frozen 4
  have y5 := HE10.out.frozen 5
  have y6 := HE10.out.frozen 6
  simp only [List.getElem?_toArray, List.getElem?_cons_zero, List.getElem?_cons_succ] at b0 b1 b2 b3 b4 b5 b6 e0 e1 e2 e3 e4 e5 e6
  have U := blk_set7 HE10.out (.int .i64 x) (.int .i64 (k : Int)) (.int .i64 y) (.int .i64 z) (.int .i64 u) (.slice A7 dns.length c7) (.slice A9 fns.length c9)
  have hs11 := grown_set7 (w9.setCell ⟨sb, 6, none⟩ (.slice A9 fns.length c9)) w.heap.size (.int .i64 x) (.int .i64 (k : Int)) (.int .i64 y) (.int .i64 z) (.int .i64 u) (.slice A7 dns.length c7) (.slice A9 fns.length c9)
  have R11 := HR10.out.far hs11 (fun g e => by injection e with e; have := HLT.out; omega)
  have G11 := grown_new HG10.out hs11 (fun g e => by injection e with e; omega)
  have D11 := (HD10.out.grown hs11 (fun b hb e => by injection e with e; have := HSB.out; omega)).mono (Q := fun b => w.heap.size ≤ b) (fun b _ hb => by have := HSB.out; omega)
  have F11 := (HF10.out.grown hs11 (fun b hb e => by injection e with e; have := HSB.out; have := HS8.out; omega)).mono (Q := fun b => w.heap.size ≤ b) (fun b _ hb => by have := HSB.out; have := HS8.out; omega)
  unfold set7 at U R11 G11 D11 F11
  have HU := Lib.hid U
  have HR11 := Lib.hid R11
  have HG11 := Lib.hid G11
  have HD11 := Lib.hid D11
  have HF11 := Lib.hid F11
  clear U hs11 R11 G11 D11 F11
  go_wp2_with fail
  clear b0 b1 b2 b3 b4 b5 b6 e0 e1 e2 e3 e4 e5 e6 y0 y1 y2 y3 y4 y5 y6
  generalize (((((((w9.setCell ⟨sb, 6, none⟩ (.slice A9 fns.length c9)).setCell ⟨w.heap.size, 0, none⟩ (.int .i64 x)).setCell ⟨w.heap.size, 1, none⟩ (.int .i64 (k : Int))).setCell ⟨w.heap.size, 2, none⟩ (.int .i64 y)).setCell ⟨w.heap.size, 3, none⟩ (.int .i64 z)).setCell ⟨w.heap.size, 4, none⟩ (.int .i64 u)).setCell ⟨w.heap.size, 5, none⟩ (.slice A7 dns.length c7)).setCell ⟨w.heap.size, 6, none⟩ (.slice A9 fns.length c9) = W at *
  have u0 := HU.out.cell 0
  have u1 := HU.out.cell 1
  have u2 := HU.out.cell 2
  have u3 := HU.out.cell 3
  have u4 := HU.out.cell 4
  have u5 := HU.out.cell 5
  have u6 := HU.out.cell 6
  simp only [List.getElem?_toArray, List.getElem?_cons_zero, List.getElem?_cons_succ] at u0 u1 u2 u3 u4 u5 u6
  exact bodyPost_ret (v := .agg #[.int .i64 x, .int .i64 (k : Int), .int .i64 y, .int .i64 z, .int .i64 u, .slice A7 dns.length c7, .slice A9 fns.length c9]) (by simp [results, Tryd.results35, go_sem, u0, u1, u2, u3, u4, u5, u6]) rfl
    ⟨⟨x, (k : Int), y, z, u, dns, fns⟩, .slice A7 dns.length c7, .slice A9 fns.length c9, l7, ok7, rfl, ⟨HI0.out, HI1.out, HI2.out, HI3.out, HI4.out⟩, HD11.out, HF11.out, ⟨HR11.out, HG11.out⟩, HEV.out.1, HEV.out.2⟩
end Go.Proofs.YtmnjmegejaejlaaDoor
