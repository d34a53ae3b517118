/-
  WALK: interleaveref16.event.
-/
import Derived.Test.YtmnjmegejaejlaaDoorTR30
import Derived.Test.YtmnjmegejaejlaaDoorTR34
import Derived.Test.YtmnjmegejaejlaaDoorTR14
import Derived.Deep.RegionHeld3
import Derived.Deep.Cut
import Derived.Deep.RegionLaw
namespace Go.Proofs.YtmnjmegejaejlaaDoor
open Go.RowKit

/-- What the reference's event answers. -/
def REvRet (w : World) (l : List (List UInt8)) (e : Ending) (w' : World) : Prop :=
  Below w.heap.size w w' ∧ ∃ (ev : Evn) (dv fv : Value) (okb : Bool), e = .returned (.tuple #[Evn.val ev dv fv, .bool okb]) ∧ ev.ok ∧ IntsO w' (fun b => w.heap.size ≤ b) dv ev.deps ∧ IntsO w' (fun b => w.heap.size ≤ b) fv ev.frm ∧
    (∀ x, eventI l.tail = some x → okb = true ∧ ev = x) ∧ (eventI l.tail = none → okb = false)
theorem i64_z : I64 0 := by unfold I64; omega
theorem rev_zero {w w' : World} {l : List (List UInt8)} (hb : Below w.heap.size w w') (hn : eventI l.tail = none) : REvRet w l (.returned (.tuple #[.agg #[.int .i64 0, .int .i64 0, .int .i64 0, .int .i64 0, .int .i64 0, .slice none 0 0, .slice none 0 0], .bool false])) w' :=
  ⟨hb, ⟨0, 0, 0, 0, 0, [], []⟩, .slice none 0 0, .slice none 0 0, false, rfl, ⟨i64_z, i64_z, i64_z, i64_z, i64_z⟩, ⟨none, 0, rfl, by simp, by simp [maxLen], by simp, by simp⟩, ⟨none, 0, rfl, by simp, by simp [maxLen], by simp, by simp⟩, (fun x h => by rw [hn] at h; cases h), fun _ => rfl⟩
theorem eventI_short {l : List (List UInt8)} (h : l.length < 5) : eventI l = none := by
  rcases l with _ | ⟨a, _ | ⟨b, _ | ⟨c, _ | ⟨d, _ | ⟨f, rest⟩⟩⟩⟩⟩ <;> first | rfl | (simp at h; omega)
theorem eventI_nokind {a k o v s : List UInt8} {rest : List (List UInt8)} (h : kindI k = none) : eventI (a :: k :: o :: v :: s :: rest) = none := by
  rw [eventI_cons, h]; cases canonI a <;> rfl
theorem eventI_nonum {a k o v s : List UInt8} {rest : List (List UInt8)} (h : [a, o, v, s].mapM canonI = none) : eventI (a :: k :: o :: v :: s :: rest) = none := by
  cases he : eventI (a :: k :: o :: v :: s :: rest) with
  | none => rfl
  | some e =>
    obtain ⟨x, kk, y, z, u, dns, fns, l6, f1, f2, f3, f4, f5, -, -⟩ := eventI_inv he
    simp only [List.headD_cons, List.tail_cons] at f1 f2 f3 f4 f5
    simp [f1, f3, f4, f5] at h
theorem mapM4 {a o v s : List UInt8} {ns : List Int} (h : [a, o, v, s].mapM canonI = some ns) : ∃ x y z u, ns = [x, y, z, u] ∧ canonI a = some x ∧ canonI o = some y ∧ canonI v = some z ∧ canonI s = some u := by
  cases h0 : canonI a with
  | none => simp [h0] at h
  | some x =>
    cases h1 : canonI o with
    | none => simp [h0, h1] at h
    | some y =>
      cases h2 : canonI v with
      | none => simp [h0, h1, h2] at h
      | some z =>
        cases h3 : canonI s with
        | none => simp [h0, h1, h2, h3] at h
        | some u =>
          simp [h0, h1, h2, h3] at h
          exact ⟨x, y, z, u, h.symm, rfl, rfl, rfl, rfl⟩
theorem rev_plain {a kd o v s : List UInt8} {rest : List (List UInt8)} {x y z u : Int} {k ka kb : Nat} {dns fns : List Int} {fine good : Bool} (h0 : canonI a = some x) (h1 : kindI kd = some k) (h2 : canonI o = some y) (h3 : canonI v = some z) (h4 : canonI s = some u)
    (hka : ka ≤ rest.length) (hkb : kb ≤ (rest.drop ka).length)
    (f1 : fine = true → listS wDeps wFrom rest = some (dns, rest.drop ka)) (f2 : fine = false → listS wDeps wFrom rest = none)
    (g1 : good = true → listS wFrom [] (rest.drop ka) = some (fns, (rest.drop ka).drop kb)) (g2 : good = false → listS wFrom [] (rest.drop ka) = none) :
    ((fine && good) = true → ka + kb = rest.length → eventI (a :: kd :: o :: v :: s :: rest) = some ⟨x, (k : Int), y, z, u, dns, fns⟩) ∧ (((fine && good) = false ∨ ka + kb ≠ rest.length) → eventI (a :: kd :: o :: v :: s :: rest) = none) := by
  have hev : eventI (a :: kd :: o :: v :: s :: rest) = (restI rest).map fun p => ⟨x, (k : Int), y, z, u, p.1, p.2⟩ := by
    rw [eventI_cons, h0, h1, h2, h3, h4]; cases restI rest <;> rfl
  rw [hev]
  refine ⟨fun a b => ?_, fun a => ?_⟩
  · simp only [Bool.and_eq_true] at a
    have e1 := f1 a.1
    have e2 := g1 a.2
    rw [listS_from] at e1
    have hd : (rest.drop ka).drop kb = [] := List.drop_eq_nil_of_le (by simp; omega)
    rw [hd] at e2
    have e3 := (listS_end _ _).1 e2
    unfold restI
    rw [e1]
    simp [e3]
  · cases hr : restI rest with
    | none => rfl
    | some p =>
      exfalso
      unfold restI at hr
      cases e1 : listI wDeps rest with
      | none => rw [e1] at hr; cases hr
      | some q =>
        rw [e1] at hr
        simp only [Option.bind_some] at hr
        cases e2 : listI wFrom q.2 with
        | none => rw [e2] at hr; cases hr
        | some q2 =>
          rw [e2] at hr
          simp only [Option.bind_some] at hr
          split at hr
          · rename_i hq
            have hf : fine = true := by
              cases e : fine with
              | true => rfl
              | false => have := f2 e; rw [listS_from, e1] at this; cases this
            have e3 := f1 hf
            rw [listS_from, e1] at e3
            injection e3 with e3
            have e4 : q.2 = rest.drop ka := by rw [e3]
            rw [e4] at e2
            have e5 : listI wFrom (rest.drop ka) = some (q2.1, []) := by rw [e2, ← hq]
            have e6 := (listS_end _ _).2 e5
            have hg : good = true := by
              cases e : good with
              | true => rfl
              | false => have := g2 e; rw [e6] at this; cases this
            have e7 := g1 hg
            rw [e6] at e7
            injection e7 with e7
            injection e7 with _ e7
            rcases a with a | a
            · rw [hf, hg] at a; cases a
            · have := congrArg List.length e7
              simp at this
              simp at hkb
              omega
          · cases hr
theorem longs_no {w w' : World} {l : List (List UInt8)} {e : Ending} (h : LongsRet w l e w') (hm : l.mapM canonI = none) : e = .returned (.tuple #[.slice none 0 0, .bool false]) ∧ Below w.heap.size w w' := by
  obtain ⟨hb, ⟨ns, A, c, h1, -, -⟩ | ⟨-, h2⟩⟩ := h
  · rw [hm] at h1; cases h1
  · exact ⟨h2, hb⟩
theorem longs_yes {w w' : World} {l : List (List UInt8)} {e : Ending} {ns : List Int} (h : LongsRet w l e w') (hm : l.mapM canonI = some ns) : ∃ A c, e = .returned (.tuple #[.slice A ns.length c, .bool true]) ∧ OwnL w' w.heap.size (.slice A ns.length c) ns ∧ Below w.heap.size w w' := by
  obtain ⟨hb, ⟨ns', A, c, h1, h2, h3⟩ | ⟨h1, -⟩⟩ := h
  · rw [hm] at h1; injection h1 with h1; subst h1; exact ⟨A, c, h2, h3, hb⟩
  · rw [hm] at h1; cases h1
theorem txts_new4 (w : World) (a o v s : List UInt8) : Txts (w.alloc (.cells #[.string ⟨a.toArray⟩, .string ⟨o.toArray⟩, .string ⟨v.toArray⟩, .string ⟨s.toArray⟩] 9)).drew (.slice (some ⟨w.heap.size, 0, none⟩) 4 4) [a, o, v, s] := by
  have hb := (Blk.new w 9 #[.string ⟨a.toArray⟩, .string ⟨o.toArray⟩, .string ⟨v.toArray⟩, .string ⟨s.toArray⟩]).keep (Below.refl _ _).drew
  refine ⟨_, 4, rfl, by simp, by simp [maxLen], fun _ => ⟨w.heap.size, 0, rfl, hb.lt, fun j p hj => ?_⟩⟩
  have h := hb.cell j
  rw [Nat.zero_add]
  rw [h, ← hj]
  simp
theorem txts_drop {w : World} {A : Option Addr} {c : Nat} {l : List (List UInt8)} (h : Txts w (.slice A l.length c) l) (k : Nat) (hk : k ≤ l.length) :
    ∃ dp, (∀ w, (Instr.slice 25 (.slice A l.length c) (some (.int .i64 (k : Int))) none none).run Tryd.prog w = .ok (.slice dp (l.drop k).length (c - k)) w) ∧ Txts w (.slice dp (l.drop k).length (c - k)) (l.drop k) := by
  obtain ⟨A', c', ex, h1, h2, h3⟩ := h
  injection ex with e1 e2 e3
  subst e1 e3
  obtain ⟨dp, a1, a2⟩ := cut_fromT A l.length c k hk h1
  refine ⟨dp, fun w => by rw [a1 w, List.length_drop], dp, c - k, rfl, by simp; omega, by omega, fun h0 => ?_⟩
  have h0 : k < l.length := by simp at h0; omega
  obtain ⟨b, off, rfl, b2, b3⟩ := h3 (by simp; omega)
  refine ⟨b, off + k, by rw [a2 h0]; simp [Addr.add], b2, fun j u hj => ?_⟩
  rw [Nat.add_assoc]
  refine b3 (k + j) u ?_
  rw [List.getElem?_map, List.getElem?_drop] at hj
  rw [List.getElem?_map]; exact hj
theorem rev_end {w w' : World} {l : List (List UInt8)} {ev : Evn} {dv fv : Value} {okb : Bool} (hb : Below w.heap.size w w') (hi : ev.ok) (hd : IntsO w' (fun b => w.heap.size ≤ b) dv ev.deps) (hf : IntsO w' (fun b => w.heap.size ≤ b) fv ev.frm)
    (h1 : okb = true → eventI l.tail = some ev) (h2 : okb = false → eventI l.tail = none) : REvRet w l (.returned (.tuple #[Evn.val ev dv fv, .bool okb])) w' := by
  refine ⟨hb, ev, dv, fv, okb, rfl, hi, hd, hf, fun x h => ?_, fun h => ?_⟩
  · cases okb with
    | true => rw [h1 rfl] at h; injection h with h; exact ⟨rfl, h⟩
    | false => rw [h2 rfl] at h; cases h
  · cases okb with
    | true => rw [h1 rfl] at h; cases h
    | false => rfl
theorem kindI_bound {s : List UInt8} {k : Nat} (h : kindI s = some k) : 1 ≤ k ∧ k ≤ 23 := by
  unfold kindI at h
  cases e : kindsL.findIdx? (· == s) with
  | none => rw [e] at h; cases h
  | some j =>
    rw [e] at h
    simp only [Option.map_some, Option.some.injEq] at h
    have := (List.findIdx?_eq_some_iff_getElem.1 e).1
    rw [show kindsL.length = 23 from rfl] at this
    omega
set_option maxRecDepth 100000 in
set_option maxHeartbeats 16000000 in
theorem revent_any (A : Option Addr) (c : Nat) (l : List (List UInt8)) (w : World) (h : Txts w (.slice A l.length c) l) (hp : PT w) (hl : ∀ p ∈ l, p.length ≤ 1000000000) (hn : l.length ≤ 1000000000) :
    Calls Tryd.prog 38 #[.slice A l.length c] w (REvRet w l) := by
  have hz1 := Blk.new w 53 #[.int .i64 0, .int .i64 0, .int .i64 0, .int .i64 0, .int .i64 0, .slice none 0 0, .slice none 0 0]
  have hz2 := hz1.alloc (.cells #[.int .i64 0, .int .i64 0, .int .i64 0, .int .i64 0, .int .i64 0, .slice none 0 0, .slice none 0 0] 53)
  have ht := Blk.new (w.alloc (.cells #[.int .i64 0, .int .i64 0, .int .i64 0, .int .i64 0, .int .i64 0, .slice none 0 0, .slice none 0 0] 53)) 53 #[.int .i64 0, .int .i64 0, .int .i64 0, .int .i64 0, .int .i64 0, .slice none 0 0, .slice none 0 0]
  rw [show ∀ (a : World) (o : Obj), (a.alloc o).heap.size = a.heap.size + 1 from fun a o => by simp] at ht
  have hb2 : Below w.heap.size w ((w.alloc (.cells #[.int .i64 0, .int .i64 0, .int .i64 0, .int .i64 0, .int .i64 0, .slice none 0 0, .slice none 0 0] 53)).alloc (.cells #[.int .i64 0, .int .i64 0, .int .i64 0, .int .i64 0, .int .i64 0, .slice none 0 0, .slice none 0 0] 53)) := by go_grown
  have HT := Lib.hid h
  have HG : Hid (GT w.heap.size) := Lib.hid hp.gb
  obtain ⟨A', c', ex, kx1, kx2, hrd⟩ := h
  injection ex with ex1 ex2 ex3
  subst ex1 ex3
  have HRD := Lib.hid hrd
  have HP2 := Lib.hid (hp.below hb2)
  have HL := Lib.hid hl
  have HB2 := Lib.hid hb2
  have HZ2 := Lib.hid hz2
  have HE2 := Lib.hid ht
  unfold maxLen at kx2
  clear hz1 hz2 ht hb2 hp hl hrd ex2
  go_enter Tryd.func38, Tryd.ntmps38
  by_cases h6 : l.length < 6
  · have HNO : Hid (eventI l.tail = none) := Lib.hid (eventI_short (by simp; omega))
    have h6i : (l.length : Int) < 6 := by omega
    obtain ⟨W2, hW2⟩ : ∃ W2, W2 = (w.alloc (.cells #[.int .i64 0, .int .i64 0, .int .i64 0, .int .i64 0, .int .i64 0, .slice none 0 0, .slice none 0 0] 53)).alloc (.cells #[.int .i64 0, .int .i64 0, .int .i64 0, .int .i64 0, .int .i64 0, .slice none 0 0, .slice none 0 0] 53) := ⟨_, rfl⟩
    go_wp2_with fail
    rw [← hW2] at HB2 HZ2 HE2 HP2 ⊢
    clear hW2
    have u0 := HZ2.out.cell 0
    have u1 := HZ2.out.cell 1
    have u2 := HZ2.out.cell 2
    have u3 := HZ2.out.cell 3
    have u4 := HZ2.out.cell 4
    have u5 := HZ2.out.cell 5
    have u6 := HZ2.out.cell 6
    simp only [List.getElem?_toArray, List.getElem?_cons_zero, List.getElem?_cons_succ] at u0 u1 u2 u3 u4 u5 u6
    exact bodyPost_ret (v := .tuple #[.agg #[.int .i64 0, .int .i64 0, .int .i64 0, .int .i64 0, .int .i64 0, .slice none 0 0, .slice none 0 0], .bool false]) (by simp [results, Tryd.results38, go_sem, u0, u1, u2, u3, u4, u5, u6]) rfl (rev_zero HB2.out HNO.out)
  · obtain ⟨h0, a, kd, o, v, s, rest, hl6⟩ : ∃ h0 a kd o v s rest, l = h0 :: a :: kd :: o :: v :: s :: rest := by
      rcases l with _ | ⟨a, _ | ⟨b, _ | ⟨c, _ | ⟨d, _ | ⟨f, _ | ⟨g, rest⟩⟩⟩⟩⟩⟩
      all_goals first | exact ⟨_, _, _, _, _, _, _, rfl⟩ | exact absurd (by simp) h6
    have HL6 := Lib.hid hl6
    have hge : 6 ≤ (l.length : Int) := by omega
    have HATX : Hid (∀ (W : World), Below w.heap.size w W → ∀ j p, l[j]? = some p → ∃ b off, A = some ⟨b, off, none⟩ ∧ b < w.heap.size ∧ W.cell? ⟨b, off + j, none⟩ = some (.string ⟨p.toArray⟩)) := Lib.hid (fun W hW j p hj => by
      obtain ⟨b, off, e1, e2, e3⟩ := HRD.out.at_ (k := j) (u := .string ⟨p.toArray⟩) (by rw [List.getElem?_map, hj]; rfl)
      exact ⟨b, off, e1, e2, (hW.cell (p := ⟨b, off + j, none⟩) e2).trans e3⟩)
    obtain ⟨b, off, rfl, hbl, -⟩ := HATX.out w (Below.refl _ _) 0 h0 (by rw [hl6]; rfl)
    have HAT : Hid (∀ (W : World), Below w.heap.size w W → ∀ j p, l[j]? = some p → W.cell? ⟨b, off + j, none⟩ = some (.string ⟨p.toArray⟩)) := Lib.hid (fun W hW j p hj => by
      obtain ⟨b', off', e1, _, e3⟩ := HATX.out W hW j p hj
      injection e1 with e1
      injection e1 with e1 e2 _
      subst e1 e2
      exact e3)
    have HBL := Lib.hid hbl
    clear h6 HATX hl6
    have hcl := HAT.out _ HB2.out 2 kd (by rw [HL6.out]; rfl)
    have HBL2 := Lib.hid (Nat.lt_of_lt_of_le hbl HB2.out.size)
    have hbl2 := HBL2.out
    have HNE : Hid (w.heap.size < ((w.alloc (.cells #[.int .i64 0, .int .i64 0, .int .i64 0, .int .i64 0, .int .i64 0, .slice none 0 0, .slice none 0 0] 53)).alloc (.cells #[.int .i64 0, .int .i64 0, .int .i64 0, .int .i64 0, .int .i64 0, .slice none 0 0, .slice none 0 0] 53)).heap.size ∧ w.heap.size + 1 < ((w.alloc (.cells #[.int .i64 0, .int .i64 0, .int .i64 0, .int .i64 0, .int .i64 0, .slice none 0 0, .slice none 0 0] 53)).alloc (.cells #[.int .i64 0, .int .i64 0, .int .i64 0, .int .i64 0, .int .i64 0, .slice none 0 0, .slice none 0 0] 53)).heap.size) := Lib.hid ⟨HZ2.out.lt, HE2.out.lt⟩
    go_wp2_with fail
    refine (rkindOf_any kd _).mono ?_
    rintro e w3 ⟨rfl, hb3⟩
    have HB3 := Lib.hid (HB2.out.trans (hb3.mono HB2.out.size))
    have HZ3 := Lib.hid (HZ2.out.keep hb3)
    have HE3 := Lib.hid (HE2.out.keep hb3)
    have HP3 := Lib.hid (HP2.out.below hb3)
    have HS3 : Hid (w.heap.size + 1 < w3.heap.size) := Lib.hid HE3.out.lt
    clear hcl hbl2 hbl HBL2 HNE HB2 HZ2 HE2 HP2 hb3
    cases hk : kindI kd with
    | none =>
      have HNO : Hid (eventI l.tail = none) := Lib.hid (by rw [HL6.out]; exact eventI_nokind hk)
      simp only [Option.getD_none]
      clear hk
      have b0 := HE3.out.cell 0
      have b1 := HE3.out.cell 1
      have b2 := HE3.out.cell 2
      have b3 := HE3.out.cell 3
      have b4 := HE3.out.cell 4
      have b5 := HE3.out.cell 5
      have b6 := HE3.out.cell 6
      have e0 := HZ3.out.cell 0
      have e1 := HZ3.out.cell 1
      have e2 := HZ3.out.cell 2
      have e3 := HZ3.out.cell 3
      have e4 := HZ3.out.cell 4
      have e5 := HZ3.out.cell 5
      have e6 := HZ3.out.cell 6
      have y0 := HZ3.out.frozen 0
      have y1 := HZ3.out.frozen 1
      have y2 := HZ3.out.frozen 2
      have y3 := HZ3.out.frozen 3
      have y4 := HZ3.out.frozen 4
      have y5 := HZ3.out.frozen 5
      have y6 := HZ3.out.frozen 6
      simp only [List.getElem?_toArray, List.getElem?_cons_zero, List.getElem?_cons_succ] at b0 b1 b2 b3 b4 b5 b6 e0 e1 e2 e3 e4 e5 e6
      have U := blk_set7 HZ3.out (.int .i64 0) (.int .i64 0) (.int .i64 0) (.int .i64 0) (.int .i64 0) (.slice none 0 0) (.slice none 0 0)
      have hs := grown_set7 w3 w.heap.size (.int .i64 0) (.int .i64 0) (.int .i64 0) (.int .i64 0) (.int .i64 0) (.slice none 0 0) (.slice none 0 0)
      have HSX : Below w.heap.size w (set7 w3 w.heap.size (.int .i64 0) (.int .i64 0) (.int .i64 0) (.int .i64 0) (.int .i64 0) (.slice none 0 0) (.slice none 0 0)) := HB3.out.trans (grownBy_below hs (HB3.out.size) (fun g e => by injection e with e; omega))
      unfold set7 at U HSX
      have HU := Lib.hid U
      have HS := Lib.hid HSX
      clear U HSX hs
      go_wp2_with fail
      clear b0 b1 b2 b3 b4 b5 b6 e0 e1 e2 e3 e4 e5 e6 y0 y1 y2 y3 y4 y5 y6
      generalize ((((((w3.setCell ⟨w.heap.size, 0, none⟩ (.int .i64 0)).setCell ⟨w.heap.size, 1, none⟩ (.int .i64 0)).setCell ⟨w.heap.size, 2, none⟩ (.int .i64 0)).setCell ⟨w.heap.size, 3, none⟩ (.int .i64 0)).setCell ⟨w.heap.size, 4, none⟩ (.int .i64 0)).setCell ⟨w.heap.size, 5, none⟩ (.slice none 0 0)).setCell ⟨w.heap.size, 6, none⟩ (.slice none 0 0) = W9 at *
      have u0 := HU.out.cell 0
      have u1 := HU.out.cell 1
      have u2 := HU.out.cell 2
      have u3 := HU.out.cell 3
      have u4 := HU.out.cell 4
      have u5 := HU.out.cell 5
      have u6 := HU.out.cell 6
      simp only [List.getElem?_toArray, List.getElem?_cons_zero, List.getElem?_cons_succ] at u0 u1 u2 u3 u4 u5 u6
      exact bodyPost_ret (v := .tuple #[.agg #[.int .i64 0, .int .i64 0, .int .i64 0, .int .i64 0, .int .i64 0, .slice none 0 0, .slice none 0 0], .bool false]) (by simp [results, Tryd.results38, go_sem, u0, u1, u2, u3, u4, u5, u6]) rfl (rev_zero HS.out HNO.out)
    | some k =>
      simp only [Option.getD_some]
      have HK := Lib.hid hk
      have HKO : Hid (∀ w, Calls Tryd.prog 58 #[.string ⟨kd.toArray⟩] w fun e w' => e = .returned (.int .i64 (k : Int)) ∧ Below w.heap.size w w') := Lib.hid (fun w => (rkindOf_any kd w).mono (by rintro e w' ⟨rfl, h⟩; exact ⟨by rw [hk]; rfl, h⟩))
      have HKB : Hid (1 ≤ k ∧ k ≤ 23) := Lib.hid (kindI_bound hk)
      have q0 : ((k : Int) == 0) = false := by rw [beq_eq_false_iff_ne]; have := HKB.out; omega
      have HC : Hid (∀ w', Below w3.heap.size w3 w' → w'.cell? ⟨b, off + 1, none⟩ = some (.string ⟨a.toArray⟩) ∧ w'.cell? ⟨b, off + 3, none⟩ = some (.string ⟨o.toArray⟩) ∧ w'.cell? ⟨b, off + 4, none⟩ = some (.string ⟨v.toArray⟩) ∧ w'.cell? ⟨b, off + 5, none⟩ = some (.string ⟨s.toArray⟩)) := Lib.hid (fun w' h => by
        have h2 := HB3.out.trans (h.mono HB3.out.size)
        exact ⟨HAT.out w' h2 1 a (by rw [HL6.out]; rfl), HAT.out w' h2 3 o (by rw [HL6.out]; rfl), HAT.out w' h2 4 v (by rw [HL6.out]; rfl), HAT.out w' h2 5 s (by rw [HL6.out]; rfl)⟩)
      have hs3 := HC.out w3 (Below.refl _ _)
      have i1 : (1 : Int) < (l.length : Int) := by omega
      have i3 : (3 : Int) < (l.length : Int) := by omega
      have i4 : (4 : Int) < (l.length : Int) := by omega
      have i5 : (5 : Int) < (l.length : Int) := by omega
      clear hk
      have HW4 : Hid (Below w3.heap.size w3 (w3.alloc (.cells #[.string ⟨a.toArray⟩, .string ⟨o.toArray⟩, .string ⟨v.toArray⟩, .string ⟨s.toArray⟩] 9)).drew) := Lib.hid ((Below.refl _ _).alloc (Nat.le_refl _) _).drew
      have HL4 : Hid (∀ p ∈ [a, o, v, s], p.length ≤ 1000000000) := Lib.hid (fun p hp => HL.out p (by rw [HL6.out]; simp at hp ⊢; rcases hp with rfl | rfl | rfl | rfl <;> simp))
      go_upto_region 4 with fail
      cases hm : [a, o, v, s].mapM canonI with
      | none =>
        go_region_held3 (fun w' => w'.cell? ⟨b, off + 1, none⟩ = some (.string ⟨a.toArray⟩) ∧ w'.cell? ⟨b, off + 3, none⟩ = some (.string ⟨o.toArray⟩) ∧ w'.cell? ⟨b, off + 4, none⟩ = some (.string ⟨v.toArray⟩) ∧ w'.cell? ⟨b, off + 5, none⟩ = some (.string ⟨s.toArray⟩)) (first | assumption | exact HC.out _ (Below.refl _ _).drew | exact HC.out _ HW4.out) (first
          | (go_at_call 37; refine (rlongs_any (some ⟨w3.heap.size, 0, none⟩) 4 [a, o, v, s] _ (txts_new4 _ _ _ _ _) (HP3.out.below HW4.out) HL4.out (by simp)).mono ?_; rintro e w5 h5; obtain ⟨rfl, hb5⟩ := longs_no h5 hm; have hs5 := HC.out w5 (HW4.out.trans (hb5.mono HW4.out.size))))
        have HBX := Lib.hid (HW4.out.trans (hb5.mono HW4.out.size))
        have HB5 := Lib.hid (HB3.out.trans (HBX.out.mono HB3.out.size))
        have HZ5 := Lib.hid (HZ3.out.keep HBX.out)
        have HE5 := Lib.hid (HE3.out.keep HBX.out)
        have HP5 := Lib.hid (HP3.out.below HBX.out)
        have HNO : Hid (eventI l.tail = none) := Lib.hid (by rw [HL6.out]; exact eventI_nonum hm)
        clear hm hb5 h5 hs5 hs3 HBX HC HKO HW4 HB3 HZ3 HE3 HP3 i1 i3 i4 i5
        have b0 := HE5.out.cell 0
        have b1 := HE5.out.cell 1
        have b2 := HE5.out.cell 2
        have b3 := HE5.out.cell 3
        have b4 := HE5.out.cell 4
        have b5 := HE5.out.cell 5
        have b6 := HE5.out.cell 6
        have e0 := HZ5.out.cell 0
        have e1 := HZ5.out.cell 1
        have e2 := HZ5.out.cell 2
        have e3 := HZ5.out.cell 3
        have e4 := HZ5.out.cell 4
        have e5 := HZ5.out.cell 5
        have e6 := HZ5.out.cell 6
        have y0 := HZ5.out.frozen 0
        have y1 := HZ5.out.frozen 1
        have y2 := HZ5.out.frozen 2
        have y3 := HZ5.out.frozen 3
        have y4 := HZ5.out.frozen 4
        have y5 := HZ5.out.frozen 5
        have y6 := HZ5.out.frozen 6
        simp only [List.getElem?_toArray, List.getElem?_cons_zero, List.getElem?_cons_succ] at b0 b1 b2 b3 b4 b5 b6 e0 e1 e2 e3 e4 e5 e6
        have U := blk_set7 HZ5.out (.int .i64 0) (.int .i64 0) (.int .i64 0) (.int .i64 0) (.int .i64 0) (.slice none 0 0) (.slice none 0 0)
        have hs := grown_set7 w5 w.heap.size (.int .i64 0) (.int .i64 0) (.int .i64 0) (.int .i64 0) (.int .i64 0) (.slice none 0 0) (.slice none 0 0)
        have HSX : Below w.heap.size w (set7 w5 w.heap.size (.int .i64 0) (.int .i64 0) (.int .i64 0) (.int .i64 0) (.int .i64 0) (.slice none 0 0) (.slice none 0 0)) := HB5.out.trans (grownBy_below hs (HB5.out.size) (fun g e => by injection e with e; omega))
        unfold set7 at U HSX
        have HU := Lib.hid U
        have HS := Lib.hid HSX
        clear U HSX hs
        go_wp2_with fail
        clear b0 b1 b2 b3 b4 b5 b6 e0 e1 e2 e3 e4 e5 e6 y0 y1 y2 y3 y4 y5 y6
        generalize ((((((w5.setCell ⟨w.heap.size, 0, none⟩ (.int .i64 0)).setCell ⟨w.heap.size, 1, none⟩ (.int .i64 0)).setCell ⟨w.heap.size, 2, none⟩ (.int .i64 0)).setCell ⟨w.heap.size, 3, none⟩ (.int .i64 0)).setCell ⟨w.heap.size, 4, none⟩ (.int .i64 0)).setCell ⟨w.heap.size, 5, none⟩ (.slice none 0 0)).setCell ⟨w.heap.size, 6, none⟩ (.slice none 0 0) = W9 at *
        have u0 := HU.out.cell 0
        have u1 := HU.out.cell 1
        have u2 := HU.out.cell 2
        have u3 := HU.out.cell 3
        have u4 := HU.out.cell 4
        have u5 := HU.out.cell 5
        have u6 := HU.out.cell 6
        simp only [List.getElem?_toArray, List.getElem?_cons_zero, List.getElem?_cons_succ] at u0 u1 u2 u3 u4 u5 u6
        exact bodyPost_ret (v := .tuple #[.agg #[.int .i64 0, .int .i64 0, .int .i64 0, .int .i64 0, .int .i64 0, .slice none 0 0, .slice none 0 0], .bool false]) (by simp [results, Tryd.results38, go_sem, u0, u1, u2, u3, u4, u5, u6]) rfl (rev_zero HS.out HNO.out)
      | some ns =>
        obtain ⟨x, y, z, u, rfl, g0, g1, g2, g3⟩ := mapM4 hm
        go_region_held3 (fun w' => w'.cell? ⟨b, off + 1, none⟩ = some (.string ⟨a.toArray⟩) ∧ w'.cell? ⟨b, off + 3, none⟩ = some (.string ⟨o.toArray⟩) ∧ w'.cell? ⟨b, off + 4, none⟩ = some (.string ⟨v.toArray⟩) ∧ w'.cell? ⟨b, off + 5, none⟩ = some (.string ⟨s.toArray⟩)) (first | assumption | exact HC.out _ (Below.refl _ _).drew | exact HC.out _ HW4.out) (first
          | (go_at_call 37; refine (rlongs_any (some ⟨w3.heap.size, 0, none⟩) 4 [a, o, v, s] _ (txts_new4 _ _ _ _ _) (HP3.out.below HW4.out) HL4.out (by simp)).mono ?_; rintro e w5 h5; obtain ⟨A5, c5, rfl, ho5, hb5⟩ := longs_yes h5 hm; have hs5 := HC.out w5 (HW4.out.trans (hb5.mono HW4.out.size))))
        have HBX := Lib.hid (HW4.out.trans (hb5.mono HW4.out.size))
        have HB5 := Lib.hid (HB3.out.trans (HBX.out.mono HB3.out.size))
        have HZ5 := Lib.hid (HZ3.out.keep HBX.out)
        have HE5 := Lib.hid (HE3.out.keep HBX.out)
        have HP5 := Lib.hid (HP3.out.below HBX.out)
        have HC2 : Hid (∀ w', w5.grownBy w' (some (w.heap.size + 1)) → w'.cell? ⟨b, off + 2, none⟩ = some (.string ⟨kd.toArray⟩)) := Lib.hid (fun w' h => h.cell (HAT.out w5 HB5.out 2 kd (by rw [HL6.out]; rfl)) (by intro e; injection e with e; have e : b = w.heap.size + 1 := e; have := HBL.out; omega))
        have HIX : Hid (I64 x ∧ I64 y ∧ I64 z ∧ I64 u) := Lib.hid ⟨ho5.2 x (by simp), ho5.2 y (by simp), ho5.2 z (by simp), ho5.2 u (by simp)⟩
        have HQ : Hid (canonI a = some x ∧ canonI o = some y ∧ canonI v = some z ∧ canonI s = some u) := Lib.hid ⟨g0, g1, g2, g3⟩
        obtain ⟨g5, rfl, hn5⟩ : ∃ g5, A5 = some ⟨g5, 0, none⟩ ∧ Hid (∀ w', w5.grownBy w' (some (w.heap.size + 1)) → w'.cell? ⟨g5, 0, none⟩ = some (.int .i64 x) ∧ w'.cell? ⟨g5, 1, none⟩ = some (.int .i64 y) ∧ w'.cell? ⟨g5, 2, none⟩ = some (.int .i64 z) ∧ w'.cell? ⟨g5, 3, none⟩ = some (.int .i64 u)) := by
          rcases owns_shape ho5.1 with ⟨e, -, e2⟩ | ⟨g, cap, e⟩
          · simp at e2
          · injection e with e1 e2 e3
            subst e1 e3
            obtain ⟨q1, q2, -, -, q5⟩ := rd_of_row ho5.1
            have q1 : w3.heap.size + 1 ≤ g := by simpa using q1
            have q3 : some g ≠ some (w.heap.size + 1) := by intro e; injection e with e; have := HS3.out; omega
            refine ⟨g, rfl, Lib.hid (fun w' h => ⟨?_, ?_, ?_, ?_⟩)⟩
            · exact h.cell (q5 0 _ rfl) q3
            · exact h.cell (q5 1 _ rfl) q3
            · exact h.cell (q5 2 _ rfl) q3
            · exact h.cell (q5 3 _ rfl) q3
        clear hm hb5 h5 hs5 hs3 HBX HC HW4 HB3 HZ3 HE3 HP3 g0 g1 g2 g3 ho5 i1 i3 i4 i5 HL4 HS3
        have HSX : Hid (∀ w', w5.grownBy w' (some (w.heap.size + 1)) → w'.cell? ⟨g5, 0, none⟩ = some (.int .i64 x) ∧ w'.cell? ⟨g5, 1, none⟩ = some (.int .i64 y) ∧ w'.cell? ⟨g5, 2, none⟩ = some (.int .i64 z) ∧ w'.cell? ⟨g5, 3, none⟩ = some (.int .i64 u) ∧ w'.cell? ⟨b, off + 2, none⟩ = some (.string ⟨kd.toArray⟩)) := Lib.hid (fun w' h => ⟨(hn5.out w' h).1, (hn5.out w' h).2.1, (hn5.out w' h).2.2.1, (hn5.out w' h).2.2.2, HC2.out w' h⟩)
        have hs5 := HSX.out w5 (below_grownT (Below.refl _ _) _)
        have hs6 := HSX.out w5.drew (below_grownT (Below.refl _ _).drew _)
        have i2 : (2 : Int) < (l.length : Int) := by omega
        go_upto_region 7 with fail
        go_region_held3 (fun w' => w'.cell? ⟨g5, 0, none⟩ = some (.int .i64 x) ∧ w'.cell? ⟨g5, 1, none⟩ = some (.int .i64 y) ∧ w'.cell? ⟨g5, 2, none⟩ = some (.int .i64 z) ∧ w'.cell? ⟨g5, 3, none⟩ = some (.int .i64 u) ∧ w'.cell? ⟨b, off + 2, none⟩ = some (.string ⟨kd.toArray⟩)) (with_reducible assumption) (first
          | (go_at_call 58; refine (HKO.out _).mono ?_; rintro e w7 ⟨rfl, hb7⟩; have hg7 := below_grownT (Below.trans (Below.refl w5.heap.size w5).drew (show Below w5.heap.size w5.drew w7 from hb7)) (some (w.heap.size + 1)); have hs7 := HSX.out w7 hg7; have hs8 := HSX.out _ (grownBy_trans hg7 (grown_set7 w7 (w.heap.size + 1) (.int .i64 x) (.int .i64 (k : Int)) (.int .i64 y) (.int .i64 z) (.int .i64 u) (.slice none 0 0) (.slice none 0 0))); unfold set7 at hs8; have HE7 := Lib.hid (HE5.out.keep (Below.trans (Below.refl w5.heap.size w5).drew (show Below w5.heap.size w5.drew w7 from hb7))); have c0 := HE7.out.cell 0; have c1 := HE7.out.cell 1; have c2 := HE7.out.cell 2; have c3 := HE7.out.cell 3; have c4 := HE7.out.cell 4; have c5 := HE7.out.cell 5; have c6 := HE7.out.cell 6; have z0 := HE7.out.frozen 0; have z1 := HE7.out.frozen 1; have z2 := HE7.out.frozen 2; have z3 := HE7.out.frozen 3; have z4 := HE7.out.frozen 4; have z5 := HE7.out.frozen 5; have z6 := HE7.out.frozen 6; simp only [List.getElem?_toArray, List.getElem?_cons_zero, List.getElem?_cons_succ] at c0 c1 c2 c3 c4 c5 c6))
        have HB57 : Hid (Below w5.heap.size w5 w7) := Lib.hid ((Below.refl w5.heap.size w5).drew.trans hb7)
        have HB7 : Hid (Below w.heap.size w w7) := Lib.hid (HB5.out.trans (HB57.out.mono HB5.out.size))
        have hs := grown_set7 w7 (w.heap.size + 1) (.int .i64 x) (.int .i64 (k : Int)) (.int .i64 y) (.int .i64 z) (.int .i64 u) (.slice none 0 0) (.slice none 0 0)
        have hk8 := blk_set7 HE7.out (.int .i64 x) (.int .i64 (k : Int)) (.int .i64 y) (.int .i64 z) (.int .i64 u) (.slice none 0 0) (.slice none 0 0)
        have hb8 : Below w.heap.size w7 (set7 w7 (w.heap.size + 1) (.int .i64 x) (.int .i64 (k : Int)) (.int .i64 y) (.int .i64 z) (.int .i64 u) (.slice none 0 0) (.slice none 0 0)) := grownBy_below hs HB7.out.size (fun g e => by injection e with e; omega)
        have HE8 := Lib.hid hk8
        have HB8 := Lib.hid (HB7.out.trans hb8)
        have HZ8 := Lib.hid ((HZ5.out.keep HB57.out).grown hs (by intro e; injection e with e; omega))
        have HP8 := Lib.hid ((HP5.out.below HB57.out).keep hb8 HG.out)
        clear hs hk8 hb8
        unfold set7 at HE8 HB8 HZ8 HP8
        generalize ((((((w7.setCell ⟨w.heap.size + 1, 0, none⟩ (.int .i64 x)).setCell ⟨w.heap.size + 1, 1, none⟩ (.int .i64 (k : Int))).setCell ⟨w.heap.size + 1, 2, none⟩ (.int .i64 y)).setCell ⟨w.heap.size + 1, 3, none⟩ (.int .i64 z)).setCell ⟨w.heap.size + 1, 4, none⟩ (.int .i64 u)).setCell ⟨w.heap.size + 1, 5, none⟩ (.slice none 0 0)).setCell ⟨w.heap.size + 1, 6, none⟩ (.slice none 0 0) = w8 at *
        clear hs5 hs6 hs7 hs8 hg7 hb7 HSX hn5 HC2 HKO HZ5 HE5 HP5 HB5 HB57 HB7 HE7 c0 c1 c2 c3 c4 c5 c6 z0 z1 z2 z3 z4 z5 z6 i2
        have HS8 : Hid (w.heap.size + 1 < w8.heap.size) := Lib.hid HE8.out.lt
        have HLN : Hid (l.length = rest.length + 6) := Lib.hid (by rw [HL6.out]; simp)
        obtain ⟨dp, hsl, htx⟩ := txts_drop HT.out 6 (by omega)
        rw [show l.drop 6 = rest by rw [HL6.out]; rfl] at hsl htx
        have hsl6 : ∀ w : World, (Instr.slice 25 (.slice (some ⟨b, off, none⟩) l.length c) (some (.int .i64 6)) none none).run Tryd.prog w = .ok (.slice dp rest.length (c - 6)) w := hsl
        have HTX := Lib.hid htx
        have HLR : Hid (∀ p ∈ rest, p.length ≤ 1000000000) := Lib.hid (fun p hp => HL.out p (by rw [HL6.out]; simp [hp]))
        clear hsl htx
        go_wp2_with fail
        refine (rlist_any wDeps wFrom dp (c - 6) rest w8 (HTX.out.keep HB8.out) HP8.out HLR.out (by have := HLN.out; omega)).mono ?_
        rintro e w9 ⟨A9, c9, dns, ka, fine, rfl, hi9, hb9, hka, hf1, hf2⟩
        have HB9 := Lib.hid (HB8.out.trans (hb9.mono HB8.out.size))
        have HE9 := Lib.hid (HE8.out.keep hb9)
        have HZ9 := Lib.hid (HZ8.out.keep hb9)
        have HP9 := Lib.hid (HP8.out.below hb9)
        have HD9 := Lib.hid hi9
        have HF1 := Lib.hid hf1
        have HF2 := Lib.hid hf2
        have HKA := Lib.hid hka
        have HS9 : Hid (w8.heap.size ≤ w9.heap.size) := Lib.hid hb9.size
        have hkl : 6 + ka ≤ l.length := by have := HLN.out; omega
        clear hi9 hb9 hf1 hf2 hka hsl6 HZ8 HE8 HP8 HB8
        obtain ⟨dp2, hsl, htx⟩ := txts_drop HT.out (6 + ka) hkl
        rw [show l.drop (6 + ka) = rest.drop ka by rw [HL6.out, Nat.add_comm]; rfl] at hsl htx
        rw [show ((6 + ka : Nat) : Int) = 6 + (ka : Int) by omega] at hsl
        obtain ⟨r2, hr2⟩ : ∃ r2, rest.drop ka = r2 := ⟨_, rfl⟩
        rw [hr2] at hsl htx
        have HTX2 := Lib.hid htx
        have HR2E := Lib.hid hr2
        have HL2 : Hid (∀ p ∈ r2, p.length ≤ 1000000000) := Lib.hid (fun p hp => HLR.out p (List.mem_of_mem_drop (by rw [hr2]; exact hp)))
        have HN2 : Hid (r2.length ≤ 1000000000) := Lib.hid (by have := HLN.out; rw [← hr2, List.length_drop]; omega)
        clear hr2
        have hwr : IntKind.i64.wrap (6 + (ka : Int)) = 6 + (ka : Int) := IntWalk.i64_in _ (by omega)
        clear htx
        go_wp2_with fail
        refine (rlist_any wFrom [] dp2 (c - (6 + ka)) r2 w9 (HTX2.out.keep HB9.out) HP9.out HL2.out HN2.out).mono ?_
        rintro e w10 ⟨A10, c10, fns, kb, good, rfl, hi10, hb10, hkb, hg1, hg2⟩
        have HB10 := Lib.hid (HB9.out.trans (hb10.mono HB9.out.size))
        have HE10 := Lib.hid (HE9.out.keep hb10)
        have HZ10 := Lib.hid (HZ9.out.keep hb10)
        have HD10 := Lib.hid (HD9.out.keep hb10)
        have HF10 := Lib.hid hi10
        have HS10 : Hid (w9.heap.size ≤ w10.heap.size) := Lib.hid hb10.size
        rw [← HR2E.out] at hkb hg1 hg2
        obtain ⟨p1, p2⟩ := rev_plain HQ.out.1 HK.out HQ.out.2.1 HQ.out.2.2.1 HQ.out.2.2.2 HKA.out hkb HF1.out HF2.out hg1 hg2
        rw [show (a :: kd :: o :: v :: s :: rest) = l.tail by rw [HL6.out]; rfl] at p1 p2
        have HR1 := Lib.hid p1
        have HR2 := Lib.hid p2
        have HKB2 := Lib.hid hkb
        have hkl2 : 6 + ka + kb ≤ l.length := by have := HLN.out; have := HKA.out; rw [List.length_drop] at hkb; omega
        have hwr2 : IntKind.i64.wrap (6 + (ka : Int) + (kb : Int)) = 6 + (ka : Int) + (kb : Int) := IntWalk.i64_in _ (by omega)
        have c5x := HE10.out.cell 5
        have c6x := HE10.out.cell 6
        have z5 := HE10.out.frozen 5
        have z6 := HE10.out.frozen 6
        simp only [List.getElem?_toArray, List.getElem?_cons_zero, List.getElem?_cons_succ] at c5x c6x
        have hgs : w10.grownBy ((w10.setCell ⟨w.heap.size + 1, 5, none⟩ (.slice A9 dns.length c9)).setCell ⟨w.heap.size + 1, 6, none⟩ (.slice A10 fns.length c10)) (some (w.heap.size + 1)) := grownBy_trans (grownBy_set0 _ _ _ _) (grownBy_set0 _ _ _ _)
        have hbk : Blk ((w10.setCell ⟨w.heap.size + 1, 5, none⟩ (.slice A9 dns.length c9)).setCell ⟨w.heap.size + 1, 6, none⟩ (.slice A10 fns.length c10)) (w.heap.size + 1) 53 #[.int .i64 x, .int .i64 (k : Int), .int .i64 y, .int .i64 z, .int .i64 u, .slice A9 dns.length c9, .slice A10 fns.length c10] := (HE10.out.set_ 5 _).set_ 6 _
        have HE11 := Lib.hid hbk
        have HB11 := Lib.hid (HB10.out.trans (grownBy_below hgs HB10.out.size (fun g e => by injection e with e; omega)))
        have HZ11 := Lib.hid (HZ10.out.grown hgs (by intro e; injection e with e; omega))
        have HD11 := Lib.hid (HD10.out.grown hgs (fun b hb e => by injection e with e; have := HS8.out; omega))
        have HF11 := Lib.hid (HF10.out.grown hgs (fun b hb e => by injection e with e; have := HS8.out; have := HS9.out; omega))
        clear hi10 hb10 hkb hg1 hg2 p1 p2 hgs hbk
        go_upto_region 11 with fail
        clear c5x c6x z5 z6 HE10 HZ10 HB10 HD10 HF10 hsl hwr
        generalize (w10.setCell ⟨w.heap.size + 1, 5, none⟩ (.slice A9 dns.length c9)).setCell ⟨w.heap.size + 1, 6, none⟩ (.slice A10 fns.length c10) = w11 at *
        have HOK : Hid (I64 x ∧ I64 (k : Int) ∧ I64 y ∧ I64 z ∧ I64 u) := Lib.hid ⟨HIX.out.1, (by have := HKB.out; unfold I64; omega), HIX.out.2.1, HIX.out.2.2.1, HIX.out.2.2.2⟩
        cases fine with
        | false =>
          have HY1 : Hid (false = true → eventI l.tail = some ⟨x, (k : Int), y, z, u, dns, fns⟩) := Lib.hid (fun h => by cases h)
          have HY2 : Hid (false = false → eventI l.tail = none) := Lib.hid (fun _ => HR2.out (.inl rfl))
          have b0 := HE11.out.cell 0
          have b1 := HE11.out.cell 1
          have b2 := HE11.out.cell 2
          have b3 := HE11.out.cell 3
          have b4 := HE11.out.cell 4
          have b5 := HE11.out.cell 5
          have b6 := HE11.out.cell 6
          have e0 := HZ11.out.cell 0
          have e1 := HZ11.out.cell 1
          have e2 := HZ11.out.cell 2
          have e3 := HZ11.out.cell 3
          have e4 := HZ11.out.cell 4
          have e5 := HZ11.out.cell 5
          have e6 := HZ11.out.cell 6
          have y0 := HZ11.out.frozen 0
          have y1 := HZ11.out.frozen 1
          have y2 := HZ11.out.frozen 2
          have y3 := HZ11.out.frozen 3
          have y4 := HZ11.out.frozen 4
          have y5 := HZ11.out.frozen 5
          have y6 := HZ11.out.frozen 6
          simp only [List.getElem?_toArray, List.getElem?_cons_zero, List.getElem?_cons_succ] at b0 b1 b2 b3 b4 b5 b6 e0 e1 e2 e3 e4 e5 e6
          have U := blk_set7 HZ11.out (.int .i64 x) (.int .i64 (k : Int)) (.int .i64 y) (.int .i64 z) (.int .i64 u) (.slice A9 dns.length c9) (.slice A10 fns.length c10)
          have hs := grown_set7 w11 w.heap.size (.int .i64 x) (.int .i64 (k : Int)) (.int .i64 y) (.int .i64 z) (.int .i64 u) (.slice A9 dns.length c9) (.slice A10 fns.length c10)
          have HSX : Below w.heap.size w (set7 w11 w.heap.size (.int .i64 x) (.int .i64 (k : Int)) (.int .i64 y) (.int .i64 z) (.int .i64 u) (.slice A9 dns.length c9) (.slice A10 fns.length c10)) := HB11.out.trans (grownBy_below hs (HB11.out.size) (fun g e => by injection e with e; omega))
          have HDX := (HD11.out.grown hs (fun b hb e => by injection e with e; have := HS8.out; omega)).mono (Q := fun b => w.heap.size ≤ b) (fun b _ hb => by have := HS8.out; omega)
          have HFX := (HF11.out.grown hs (fun b hb e => by injection e with e; have := HS8.out; have := HS9.out; omega)).mono (Q := fun b => w.heap.size ≤ b) (fun b _ hb => by have := HS8.out; have := HS9.out; omega)
          unfold set7 at U HSX HDX HFX
          have HU := Lib.hid U
          have HS := Lib.hid HSX
          have HDY := Lib.hid HDX
          have HFY := Lib.hid HFX
          clear U HSX hs HDX HFX
          go_wp2_with fail
          clear b0 b1 b2 b3 b4 b5 b6 e0 e1 e2 e3 e4 e5 e6 y0 y1 y2 y3 y4 y5 y6
          generalize ((((((w11.setCell ⟨w.heap.size, 0, none⟩ (.int .i64 x)).setCell ⟨w.heap.size, 1, none⟩ (.int .i64 (k : Int))).setCell ⟨w.heap.size, 2, none⟩ (.int .i64 y)).setCell ⟨w.heap.size, 3, none⟩ (.int .i64 z)).setCell ⟨w.heap.size, 4, none⟩ (.int .i64 u)).setCell ⟨w.heap.size, 5, none⟩ (.slice A9 dns.length c9)).setCell ⟨w.heap.size, 6, none⟩ (.slice A10 fns.length c10) = W9 at *
          have u0 := HU.out.cell 0
          have u1 := HU.out.cell 1
          have u2 := HU.out.cell 2
          have u3 := HU.out.cell 3
          have u4 := HU.out.cell 4
          have u5 := HU.out.cell 5
          have u6 := HU.out.cell 6
          simp only [List.getElem?_toArray, List.getElem?_cons_zero, List.getElem?_cons_succ] at u0 u1 u2 u3 u4 u5 u6
          exact bodyPost_ret (v := .tuple #[.agg #[.int .i64 x, .int .i64 (k : Int), .int .i64 y, .int .i64 z, .int .i64 u, .slice A9 dns.length c9, .slice A10 fns.length c10], .bool false]) (by simp [results, Tryd.results38, go_sem, u0, u1, u2, u3, u4, u5, u6]) rfl (rev_end (ev := ⟨x, (k : Int), y, z, u, dns, fns⟩) HS.out HOK.out HDY.out HFY.out (fun h => by cases h) (fun _ => HY2.out (by trivial)))
        | true =>
          cases good with
          | false =>
            have HY1 : Hid (false = true → eventI l.tail = some ⟨x, (k : Int), y, z, u, dns, fns⟩) := Lib.hid (fun h => by cases h)
            have HY2 : Hid (false = false → eventI l.tail = none) := Lib.hid (fun _ => HR2.out (.inl rfl))
            have b0 := HE11.out.cell 0
            have b1 := HE11.out.cell 1
            have b2 := HE11.out.cell 2
            have b3 := HE11.out.cell 3
            have b4 := HE11.out.cell 4
            have b5 := HE11.out.cell 5
            have b6 := HE11.out.cell 6
            have e0 := HZ11.out.cell 0
            have e1 := HZ11.out.cell 1
            have e2 := HZ11.out.cell 2
            have e3 := HZ11.out.cell 3
            have e4 := HZ11.out.cell 4
            have e5 := HZ11.out.cell 5
            have e6 := HZ11.out.cell 6
            have y0 := HZ11.out.frozen 0
            have y1 := HZ11.out.frozen 1
            have y2 := HZ11.out.frozen 2
            have y3 := HZ11.out.frozen 3
            have y4 := HZ11.out.frozen 4
            have y5 := HZ11.out.frozen 5
            have y6 := HZ11.out.frozen 6
            simp only [List.getElem?_toArray, List.getElem?_cons_zero, List.getElem?_cons_succ] at b0 b1 b2 b3 b4 b5 b6 e0 e1 e2 e3 e4 e5 e6
            have U := blk_set7 HZ11.out (.int .i64 x) (.int .i64 (k : Int)) (.int .i64 y) (.int .i64 z) (.int .i64 u) (.slice A9 dns.length c9) (.slice A10 fns.length c10)
            have hs := grown_set7 w11 w.heap.size (.int .i64 x) (.int .i64 (k : Int)) (.int .i64 y) (.int .i64 z) (.int .i64 u) (.slice A9 dns.length c9) (.slice A10 fns.length c10)
            have HSX : Below w.heap.size w (set7 w11 w.heap.size (.int .i64 x) (.int .i64 (k : Int)) (.int .i64 y) (.int .i64 z) (.int .i64 u) (.slice A9 dns.length c9) (.slice A10 fns.length c10)) := HB11.out.trans (grownBy_below hs (HB11.out.size) (fun g e => by injection e with e; omega))
            have HDX := (HD11.out.grown hs (fun b hb e => by injection e with e; have := HS8.out; omega)).mono (Q := fun b => w.heap.size ≤ b) (fun b _ hb => by have := HS8.out; omega)
            have HFX := (HF11.out.grown hs (fun b hb e => by injection e with e; have := HS8.out; have := HS9.out; omega)).mono (Q := fun b => w.heap.size ≤ b) (fun b _ hb => by have := HS8.out; have := HS9.out; omega)
            unfold set7 at U HSX HDX HFX
            have HU := Lib.hid U
            have HS := Lib.hid HSX
            have HDY := Lib.hid HDX
            have HFY := Lib.hid HFX
            clear U HSX hs HDX HFX
            go_wp2_with fail
            clear b0 b1 b2 b3 b4 b5 b6 e0 e1 e2 e3 e4 e5 e6 y0 y1 y2 y3 y4 y5 y6
            generalize ((((((w11.setCell ⟨w.heap.size, 0, none⟩ (.int .i64 x)).setCell ⟨w.heap.size, 1, none⟩ (.int .i64 (k : Int))).setCell ⟨w.heap.size, 2, none⟩ (.int .i64 y)).setCell ⟨w.heap.size, 3, none⟩ (.int .i64 z)).setCell ⟨w.heap.size, 4, none⟩ (.int .i64 u)).setCell ⟨w.heap.size, 5, none⟩ (.slice A9 dns.length c9)).setCell ⟨w.heap.size, 6, none⟩ (.slice A10 fns.length c10) = W9 at *
            have u0 := HU.out.cell 0
            have u1 := HU.out.cell 1
            have u2 := HU.out.cell 2
            have u3 := HU.out.cell 3
            have u4 := HU.out.cell 4
            have u5 := HU.out.cell 5
            have u6 := HU.out.cell 6
            simp only [List.getElem?_toArray, List.getElem?_cons_zero, List.getElem?_cons_succ] at u0 u1 u2 u3 u4 u5 u6
            exact bodyPost_ret (v := .tuple #[.agg #[.int .i64 x, .int .i64 (k : Int), .int .i64 y, .int .i64 z, .int .i64 u, .slice A9 dns.length c9, .slice A10 fns.length c10], .bool false]) (by simp [results, Tryd.results38, go_sem, u0, u1, u2, u3, u4, u5, u6]) rfl (rev_end (ev := ⟨x, (k : Int), y, z, u, dns, fns⟩) HS.out HOK.out HDY.out HFY.out (fun h => by cases h) (fun _ => HY2.out (by trivial)))
          | true =>
            by_cases hq : 6 + ka + kb = l.length
            · have q1 : ((6 + (ka : Int) + (kb : Int)) == (l.length : Int)) = true := by rw [beq_iff_eq]; omega
              have HY1 : Hid (true = true → eventI l.tail = some ⟨x, (k : Int), y, z, u, dns, fns⟩) := Lib.hid (fun _ => HR1.out rfl (by have := HLN.out; omega))
              have HY2 : Hid (true = false → eventI l.tail = none) := Lib.hid (fun h => by cases h)
              clear hq
              have b0 := HE11.out.cell 0
              have b1 := HE11.out.cell 1
              have b2 := HE11.out.cell 2
              have b3 := HE11.out.cell 3
              have b4 := HE11.out.cell 4
              have b5 := HE11.out.cell 5
              have b6 := HE11.out.cell 6
              have e0 := HZ11.out.cell 0
              have e1 := HZ11.out.cell 1
              have e2 := HZ11.out.cell 2
              have e3 := HZ11.out.cell 3
              have e4 := HZ11.out.cell 4
              have e5 := HZ11.out.cell 5
              have e6 := HZ11.out.cell 6
              have y0 := HZ11.out.frozen 0
              have y1 := HZ11.out.frozen 1
              have y2 := HZ11.out.frozen 2
              have y3 := HZ11.out.frozen 3
              have y4 := HZ11.out.frozen 4
              have y5 := HZ11.out.frozen 5
              have y6 := HZ11.out.frozen 6
              simp only [List.getElem?_toArray, List.getElem?_cons_zero, List.getElem?_cons_succ] at b0 b1 b2 b3 b4 b5 b6 e0 e1 e2 e3 e4 e5 e6
              have U := blk_set7 HZ11.out (.int .i64 x) (.int .i64 (k : Int)) (.int .i64 y) (.int .i64 z) (.int .i64 u) (.slice A9 dns.length c9) (.slice A10 fns.length c10)
              have hs := grown_set7 w11 w.heap.size (.int .i64 x) (.int .i64 (k : Int)) (.int .i64 y) (.int .i64 z) (.int .i64 u) (.slice A9 dns.length c9) (.slice A10 fns.length c10)
              have HSX : Below w.heap.size w (set7 w11 w.heap.size (.int .i64 x) (.int .i64 (k : Int)) (.int .i64 y) (.int .i64 z) (.int .i64 u) (.slice A9 dns.length c9) (.slice A10 fns.length c10)) := HB11.out.trans (grownBy_below hs (HB11.out.size) (fun g e => by injection e with e; omega))
              have HDX := (HD11.out.grown hs (fun b hb e => by injection e with e; have := HS8.out; omega)).mono (Q := fun b => w.heap.size ≤ b) (fun b _ hb => by have := HS8.out; omega)
              have HFX := (HF11.out.grown hs (fun b hb e => by injection e with e; have := HS8.out; have := HS9.out; omega)).mono (Q := fun b => w.heap.size ≤ b) (fun b _ hb => by have := HS8.out; have := HS9.out; omega)
              unfold set7 at U HSX HDX HFX
              have HU := Lib.hid U
              have HS := Lib.hid HSX
              have HDY := Lib.hid HDX
              have HFY := Lib.hid HFX
              clear U HSX hs HDX HFX
              go_wp2_with fail
              clear b0 b1 b2 b3 b4 b5 b6 e0 e1 e2 e3 e4 e5 e6 y0 y1 y2 y3 y4 y5 y6
              generalize ((((((w11.setCell ⟨w.heap.size, 0, none⟩ (.int .i64 x)).setCell ⟨w.heap.size, 1, none⟩ (.int .i64 (k : Int))).setCell ⟨w.heap.size, 2, none⟩ (.int .i64 y)).setCell ⟨w.heap.size, 3, none⟩ (.int .i64 z)).setCell ⟨w.heap.size, 4, none⟩ (.int .i64 u)).setCell ⟨w.heap.size, 5, none⟩ (.slice A9 dns.length c9)).setCell ⟨w.heap.size, 6, none⟩ (.slice A10 fns.length c10) = W9 at *
              have u0 := HU.out.cell 0
              have u1 := HU.out.cell 1
              have u2 := HU.out.cell 2
              have u3 := HU.out.cell 3
              have u4 := HU.out.cell 4
              have u5 := HU.out.cell 5
              have u6 := HU.out.cell 6
              simp only [List.getElem?_toArray, List.getElem?_cons_zero, List.getElem?_cons_succ] at u0 u1 u2 u3 u4 u5 u6
              exact bodyPost_ret (v := .tuple #[.agg #[.int .i64 x, .int .i64 (k : Int), .int .i64 y, .int .i64 z, .int .i64 u, .slice A9 dns.length c9, .slice A10 fns.length c10], .bool true]) (by simp [results, Tryd.results38, go_sem, u0, u1, u2, u3, u4, u5, u6]) rfl (rev_end (ev := ⟨x, (k : Int), y, z, u, dns, fns⟩) HS.out HOK.out HDY.out HFY.out (fun _ => HY1.out (by trivial)) (fun h => by cases h))
            · have q1 : ((6 + (ka : Int) + (kb : Int)) == (l.length : Int)) = false := by rw [beq_eq_false_iff_ne]; omega
              have HY1 : Hid (false = true → eventI l.tail = some ⟨x, (k : Int), y, z, u, dns, fns⟩) := Lib.hid (fun h => by cases h)
              have HY2 : Hid (false = false → eventI l.tail = none) := Lib.hid (fun _ => HR2.out (.inr (by have := HLN.out; omega)))
              clear hq
              have b0 := HE11.out.cell 0
              have b1 := HE11.out.cell 1
              have b2 := HE11.out.cell 2
              have b3 := HE11.out.cell 3
              have b4 := HE11.out.cell 4
              have b5 := HE11.out.cell 5
              have b6 := HE11.out.cell 6
              have e0 := HZ11.out.cell 0
              have e1 := HZ11.out.cell 1
              have e2 := HZ11.out.cell 2
              have e3 := HZ11.out.cell 3
              have e4 := HZ11.out.cell 4
              have e5 := HZ11.out.cell 5
              have e6 := HZ11.out.cell 6
              have y0 := HZ11.out.frozen 0
              have y1 := HZ11.out.frozen 1
              have y2 := HZ11.out.frozen 2
              have y3 := HZ11.out.frozen 3
              have y4 := HZ11.out.frozen 4
              have y5 := HZ11.out.frozen 5
              have y6 := HZ11.out.frozen 6
              simp only [List.getElem?_toArray, List.getElem?_cons_zero, List.getElem?_cons_succ] at b0 b1 b2 b3 b4 b5 b6 e0 e1 e2 e3 e4 e5 e6
              have U := blk_set7 HZ11.out (.int .i64 x) (.int .i64 (k : Int)) (.int .i64 y) (.int .i64 z) (.int .i64 u) (.slice A9 dns.length c9) (.slice A10 fns.length c10)
              have hs := grown_set7 w11 w.heap.size (.int .i64 x) (.int .i64 (k : Int)) (.int .i64 y) (.int .i64 z) (.int .i64 u) (.slice A9 dns.length c9) (.slice A10 fns.length c10)
              have HSX : Below w.heap.size w (set7 w11 w.heap.size (.int .i64 x) (.int .i64 (k : Int)) (.int .i64 y) (.int .i64 z) (.int .i64 u) (.slice A9 dns.length c9) (.slice A10 fns.length c10)) := HB11.out.trans (grownBy_below hs (HB11.out.size) (fun g e => by injection e with e; omega))
              have HDX := (HD11.out.grown hs (fun b hb e => by injection e with e; have := HS8.out; omega)).mono (Q := fun b => w.heap.size ≤ b) (fun b _ hb => by have := HS8.out; omega)
              have HFX := (HF11.out.grown hs (fun b hb e => by injection e with e; have := HS8.out; have := HS9.out; omega)).mono (Q := fun b => w.heap.size ≤ b) (fun b _ hb => by have := HS8.out; have := HS9.out; omega)
              unfold set7 at U HSX HDX HFX
              have HU := Lib.hid U
              have HS := Lib.hid HSX
              have HDY := Lib.hid HDX
              have HFY := Lib.hid HFX
              clear U HSX hs HDX HFX
              go_wp2_with fail
              clear b0 b1 b2 b3 b4 b5 b6 e0 e1 e2 e3 e4 e5 e6 y0 y1 y2 y3 y4 y5 y6
              generalize ((((((w11.setCell ⟨w.heap.size, 0, none⟩ (.int .i64 x)).setCell ⟨w.heap.size, 1, none⟩ (.int .i64 (k : Int))).setCell ⟨w.heap.size, 2, none⟩ (.int .i64 y)).setCell ⟨w.heap.size, 3, none⟩ (.int .i64 z)).setCell ⟨w.heap.size, 4, none⟩ (.int .i64 u)).setCell ⟨w.heap.size, 5, none⟩ (.slice A9 dns.length c9)).setCell ⟨w.heap.size, 6, none⟩ (.slice A10 fns.length c10) = W9 at *
              have u0 := HU.out.cell 0
              have u1 := HU.out.cell 1
              have u2 := HU.out.cell 2
              have u3 := HU.out.cell 3
              have u4 := HU.out.cell 4
              have u5 := HU.out.cell 5
              have u6 := HU.out.cell 6
              simp only [List.getElem?_toArray, List.getElem?_cons_zero, List.getElem?_cons_succ] at u0 u1 u2 u3 u4 u5 u6
              exact bodyPost_ret (v := .tuple #[.agg #[.int .i64 x, .int .i64 (k : Int), .int .i64 y, .int .i64 z, .int .i64 u, .slice A9 dns.length c9, .slice A10 fns.length c10], .bool false]) (by simp [results, Tryd.results38, go_sem, u0, u1, u2, u3, u4, u5, u6]) rfl (rev_end (ev := ⟨x, (k : Int), y, z, u, dns, fns⟩) HS.out HOK.out HDY.out HFY.out (fun h => by cases h) (fun _ => HY2.out (by trivial)))
end Go.Proofs.YtmnjmegejaejlaaDoor
