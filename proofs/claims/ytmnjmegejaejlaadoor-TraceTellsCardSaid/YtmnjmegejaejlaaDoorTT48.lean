/-
  WALK: interleaveref16.Printable.
-/
import Derived.Test.YtmnjmegejaejlaaDoorTT46
import Derived.Test.YtmnjmegejaejlaaDoorTT44
import Derived.Test.YtmnjmegejaejlaaDoorTT31
import Derived.Test.YtmnjmegejaejlaaDoorTT39
import Derived.Deep.Upon
namespace Go.Proofs.YtmnjmegejaejlaaDoor
open Go.RowKit

/-- The names of a trace. -/
def namesT (t : Trc) : List (List UInt8) := t.cells.map (·.name) ++ (t.locks.map (·.name) ++ (t.conds.map (·.name) ++ (t.futs ++ t.thrs)))
/-- What Printable answers. -/
def PrintRet (t : Trc) (e : Ending) : Prop := ∃ pb : Bool, e = .returned (.bool pb) ∧ (pb = true → (∀ n ∈ namesT t, nameB n = true) ∧ ∀ x ∈ t.events, 1 ≤ x.kind ∧ x.kind ≤ 23)
theorem wpList_append_none {P : Program} {ops : Array Oper} {rest : List Oper} {o : Oper} {a : Act} {Q : Exit → Act → World → Prop} {w : World} (hgd : o.guard = none) (s x : Operand) (t : TypeId)
    (ho : o.op = .call { callee := .builtin .append, args := #[s, x], argTypes := #[t, t] }) (e : TypeId) (i : TypeInfo) (ht : P.underlying t = some (.slice e)) (hi : P.info? e = some i)
    (A : Option Addr) (n c c' : Nat) (hle : n ≤ c) (hs : a.eval s = .slice A n c) (hx : a.eval x = .slice none 0 c') (h : wpList P ops Q rest (a.put o.dst (.slice A n c)) w) : wpList P ops Q (o :: rest) a w := by
  refine wpList_plain hgd fun K hK => ?_
  have hr := run_append_nothing (P := P) w t t o.type e i ht hi A n c hle (.slice none 0 c') ⟨.inl ⟨e, ht⟩, fun _ => rfl, by simp [Builtin.firstCells], by simp [Builtin.firstCells], by simp, by simp⟩
  unfold Oper.wp
  simp [execOp, ho, resolve, invoke, builtin, hs, hx, hr, Result.andThen]
  exact hK _ _ h
theorem strC_flat (l : List (List UInt8)) : l.flatMap strC = strV l := by
  induction l with
  | nil => rfl
  | cons x r ih => rw [List.flatMap_cons, ih]; rfl
theorem mem_take_succ {α : Type} {l : List α} {k : Nat} {x : α} {Q : α → Prop} (h : l[k]? = some x) (h1 : ∀ a ∈ l.take k, Q a) (h2 : Q x) : ∀ a ∈ l.take (k + 1), Q a := by
  rw [take_succ_of h]
  intro a ha
  rcases List.mem_append.1 ha with ha | ha
  · exact h1 a ha
  · rw [List.mem_singleton] at ha; subst ha; exact h2
set_option maxRecDepth 100000 in
set_option maxHeartbeats 32000000 in
theorem rprintable_any (t : Trc) (vv : Value) (w : World) (ht : IsTrc w vv t) (hs : Small t) :
    Calls Tryd.prog 14 #[vv] w fun e w' => PrintRet t e ∧ Below w.heap.size w w' := by
  obtain ⟨iI, hiI, hzI0, hzI1, hzI2⟩ := info_parts info_str
  obtain ⟨v, ds, rfl, hv, hdl, hev, -⟩ := ht
  obtain ⟨A0, c0, f0, ga0, ka0, ra0⟩ := hv 0 (by omega)
  obtain ⟨A1, c1, f1, ga1, ka1, ra1⟩ := hv 1 (by omega)
  obtain ⟨A2, c2, f2, ga2, ka2, ra2⟩ := hv 2 (by omega)
  obtain ⟨A3, c3, f3, ga3, ka3, ra3⟩ := hv 3 (by omega)
  obtain ⟨A4, c4, f4, ga4, ka4, ra4⟩ := hv 4 (by omega)
  obtain ⟨A5, c5, f5, ga5, ka5, ra5⟩ := hv 5 (by omega)
  obtain ⟨A6, c6, f6, ga6, ka6, ra6⟩ := hv 6 (by omega)
  rw [f0, f1, f2, f3, f4, f5, f6]
  have HR0 : Hid (Rd w A0 (t.cells.flatMap Cel.cells)) := Lib.hid ra0
  have HR1 : Hid (Rd w A1 (t.locks.flatMap Lck.cells)) := Lib.hid ra1
  have HR2 : Hid (Rd w A2 (t.conds.flatMap Cnd.cells)) := Lib.hid ra2
  have HR3 : Hid (Rd w A3 (t.futs.flatMap strC)) := Lib.hid ra3
  have HR4 : Hid (Rd w A4 (t.thrs.flatMap strC)) := Lib.hid ra4
  have HR6 : Hid (Rd w A6 ((t.events.zip ds).flatMap evC)) := Lib.hid ra6
  show Calls Tryd.prog 14 #[.agg #[.slice A0 t.cells.length c0, .slice A1 t.locks.length c1, .slice A2 t.conds.length c2, .slice A3 t.futs.length c3, .slice A4 t.thrs.length c4, .slice A5 t.sites.length c5, .slice A6 t.events.length c6]] w _
  have hb1 : Below w.heap.size w (w.alloc (.cells #[.slice A0 t.cells.length c0, .slice A1 t.locks.length c1, .slice A2 t.conds.length c2, .slice A3 t.futs.length c3, .slice A4 t.thrs.length c4, .slice A5 t.sites.length c5, .slice A6 t.events.length c6] 31)) := (Below.refl _ _).alloc (Nat.le_refl _) _
  have hb2 := hb1.alloc hb1.size (.cells #[.slice A0 t.cells.length c0, .slice A1 t.locks.length c1, .slice A2 t.conds.length c2, .slice A3 t.futs.length c3, .slice A4 t.thrs.length c4, .slice A5 t.sites.length c5] 28)
  have hx1 := (Blk.new w 31 #[.slice A0 t.cells.length c0, .slice A1 t.locks.length c1, .slice A2 t.conds.length c2, .slice A3 t.futs.length c3, .slice A4 t.thrs.length c4, .slice A5 t.sites.length c5, .slice A6 t.events.length c6]).alloc (.cells #[.slice A0 t.cells.length c0, .slice A1 t.locks.length c1, .slice A2 t.conds.length c2, .slice A3 t.futs.length c3, .slice A4 t.thrs.length c4, .slice A5 t.sites.length c5] 28)
  have hx2 := Blk.new (w.alloc (.cells #[.slice A0 t.cells.length c0, .slice A1 t.locks.length c1, .slice A2 t.conds.length c2, .slice A3 t.futs.length c3, .slice A4 t.thrs.length c4, .slice A5 t.sites.length c5, .slice A6 t.events.length c6] 31)) 28 #[.slice A0 t.cells.length c0, .slice A1 t.locks.length c1, .slice A2 t.conds.length c2, .slice A3 t.futs.length c3, .slice A4 t.thrs.length c4, .slice A5 t.sites.length c5]
  rw [show ∀ (a : World) (o : Obj), (a.alloc o).heap.size = a.heap.size + 1 from fun a o => by simp] at hx2
  have HB2 := Lib.hid hb2
  have HX := Lib.hid hx1
  have HXW := Lib.hid hx2
  have HDL := Lib.hid hdl
  have HS : Hid (t.cells.length + t.locks.length + t.conds.length + t.futs.length + t.thrs.length + t.sites.length + t.events.length ≤ 300) := Lib.hid (by unfold Small at hs; omega)
  clear hv hdl hev hb1 hb2 hx1 hx2 hs f0 ga0 ka0 ra0 f1 ga1 ka1 ra1 f2 ga2 ka2 ra2 f3 ga3 ka3 ra3 f4 ga4 ka4 ra4 f5 ga5 ka5 ra5 f6 ga6 ka6 ra6
  go_enter Tryd.func14, Tryd.ntmps14
  go_upto_region 3 with fail
  generalize (w.alloc (.cells #[.slice A0 t.cells.length c0, .slice A1 t.locks.length c1, .slice A2 t.conds.length c2, .slice A3 t.futs.length c3, .slice A4 t.thrs.length c4, .slice A5 t.sites.length c5, .slice A6 t.events.length c6] 31)).alloc (.cells #[.slice A0 t.cells.length c0, .slice A1 t.locks.length c1, .slice A2 t.conds.length c2, .slice A3 t.futs.length c3, .slice A4 t.thrs.length c4, .slice A5 t.sites.length c5] 28) = W at *
  have HWX : Hid (w.heap.size < W.heap.size ∧ w.heap.size + 1 < W.heap.size) := Lib.hid ⟨HX.out.lt, HXW.out.lt⟩
  generalize hxb : w.heap.size = xb at *
  have HWS : Hid (w.heap.size = xb) := Lib.hid hxb
  clear hxb
  have HWK : Hid (∀ w', Below W.heap.size W w' → Below w.heap.size w w') := Lib.hid (fun w' h => by rw [HWS.out]; exact HB2.out.trans (h.mono (by have := HWX.out; omega)))
  clear HB2
  go_wp2_with fail
  go_loopw [3, 5] (fun lv iv wr => ∃ k : Nat, k ≤ t.cells.length ∧ iv = .int .i64 (k : Int) ∧ Hid (wr.ownsRow W.heap.size 9 1 lv (([] : List (List UInt8)) ++ (t.cells.take k).map (·.name)).length (strV (([] : List (List UInt8)) ++ (t.cells.take k).map (·.name)))) ∧ Hid (Below W.heap.size W wr)) (fun _ iv _ => t.cells.length - (intOf iv).toNat)
  case atStart => exact ⟨0, by omega, rfl, Lib.hid (by simpa [strV] using World.ownsRow_nil _ _ _ _), Lib.hid (Below.refl _ _)⟩
  case round =>
    obtain ⟨k, hkl, rfl, HO, HKW⟩ := hrel
    obtain ⟨Ao, co, eo, -, -, -⟩ := owns_rd HO.out
    subst eo
    have q0 := (HXW.out.keep HKW.out).cell 0
    simp only [List.getElem?_toArray, List.getElem?_cons_zero] at q0
    by_cases hlt : k < t.cells.length
    · obtain ⟨x, hx⟩ : ∃ x, t.cells[k]? = some x := ⟨_, List.getElem?_eq_getElem hlt⟩
      have HTS : Hid (([] : List (List UInt8)) ++ (t.cells.take (k + 1)).map (·.name) = (([] : List (List UInt8)) ++ (t.cells.take k).map (·.name)) ++ [x.name]) := Lib.hid (by rw [take_succ_of hx, List.map_append, ← List.append_assoc]; rfl)
      have HPL : Hid ((([] : List (List UInt8)) ++ (t.cells.take k).map (·.name)).length ≤ 100000) := Lib.hid (by have := HS.out; simp; omega)
      have lk : (k : Int) < (t.cells.length : Int) := by omega
      have lm : (k : Int) < 1000000 := by have := HS.out; omega
      have lk0 : (0 : Int) ≤ (k : Int) := by omega
      generalize ([] : List (List UInt8)) ++ (t.cells.take k).map (·.name) = ps at *
      obtain ⟨b1, o1, e1, hb1, g1⟩ := (HR0.out.keep (HWK.out _ HKW.out)).flat (g := Cel.cells) (m := 5) (fun _ => rfl) (by omega) hx
      subst e1
      clear hx
      obtain ⟨nm, hnm⟩ : ∃ q, x.name = q := ⟨_, rfl⟩
      have y0 : wr.cell? ⟨b1, o1 + k * 5, none⟩ = some (.string ⟨nm.toArray⟩) := by rw [← hnm]; exact g1 0 _ rfl
      rw [hnm] at HTS
      clear g1 hb1 hnm
      have HON := Lib.hid (one_str nm)
      go_wp2_with (at_builtin; refine wpList_append_own_at _ rfl _ _ 25 rfl W.heap.size 9 iI (.string ⟨#[]⟩) 1 16 Tryd.underlying25 hiI hzI0 hzI1 hzI2 rfl (by decide) _ _ _ rfl (HO.out.alloc _) ⟨wr.heap.size, 0, none⟩ 1 1 [.string ⟨(nm).toArray⟩] rfl rfl (one_at wr _ _) HON.out ?a3 ?a4 ?a5 ?_)
      case a3 => have := HPL.out; unfold maxLen; omega
      case a4 => have := HPL.out; omega
      case a5 => have := HKW.out.size; simp; omega
      intro v7 w7 hown hgrow _ hat
      have HO7 : Hid (w7.ownsRow W.heap.size 9 1 v7 (ps ++ [nm]).length (strV (ps ++ [nm]))) := Lib.hid (by rw [strV_snoc]; simpa using hown)
      have HB7 : Hid (Below W.heap.size W w7) := Lib.hid ((HKW.out.alloc HKW.out.size _).grown hgrow (by have := HKW.out.size; simp; omega) fun k e => (HO.out.lt k e).1)
      obtain ⟨A7, c7, e7, -, -, -⟩ := owns_rd hown
      subst e7
      clear hown hgrow hat
      go_wp2_with fail
      go_roundw
      case rel => exact ⟨k + 1, by omega, by go_num, by rw [HTS.out]; simpa using HO7, HB7⟩
      case measure => simp [intOf]; omega
    · obtain rfl : k = t.cells.length := by omega
      have lk : ¬ ((t.cells.length : Int) < (t.cells.length : Int)) := by omega
      clear hlt hkl
      rw [List.take_length] at HO ⊢
      have HPQ : Hid (([] : List (List UInt8)) ++ t.cells.map (·.name) = (t.cells.map (·.name))) := Lib.hid (by simp)
      rw [HPQ.out] at HO ⊢
      have HOE := HO
      go_wp2_with fail
      clear q0
      go_loopw [3, 6] (fun lv iv wr => ∃ k : Nat, k ≤ t.locks.length ∧ iv = .int .i64 (k : Int) ∧ Hid (wr.ownsRow W.heap.size 9 1 lv ((t.cells.map (·.name)) ++ (t.locks.take k).map (·.name)).length (strV ((t.cells.map (·.name)) ++ (t.locks.take k).map (·.name)))) ∧ Hid (Below W.heap.size W wr)) (fun _ iv _ => t.locks.length - (intOf iv).toNat)
      case atStart => exact ⟨0, by omega, rfl, (by simpa using HOE), HKW⟩
      case round =>
        obtain ⟨k, hkl, rfl, HO, HKW⟩ := hrel
        obtain ⟨Ao, co, eo, -, -, -⟩ := owns_rd HO.out
        subst eo
        have q1 := (HXW.out.keep HKW.out).cell 1
        simp only [List.getElem?_toArray, List.getElem?_cons_zero, List.getElem?_cons_succ] at q1
        by_cases hlt : k < t.locks.length
        · obtain ⟨x, hx⟩ : ∃ x, t.locks[k]? = some x := ⟨_, List.getElem?_eq_getElem hlt⟩
          have HTS : Hid ((t.cells.map (·.name)) ++ (t.locks.take (k + 1)).map (·.name) = ((t.cells.map (·.name)) ++ (t.locks.take k).map (·.name)) ++ [x.name]) := Lib.hid (by rw [take_succ_of hx, List.map_append, ← List.append_assoc]; rfl)
          have HPL : Hid (((t.cells.map (·.name)) ++ (t.locks.take k).map (·.name)).length ≤ 100000) := Lib.hid (by have := HS.out; simp; omega)
          have lk : (k : Int) < (t.locks.length : Int) := by omega
          have lm : (k : Int) < 1000000 := by have := HS.out; omega
          have lk0 : (0 : Int) ≤ (k : Int) := by omega
          generalize (t.cells.map (·.name)) ++ (t.locks.take k).map (·.name) = ps at *
          obtain ⟨b1, o1, e1, hb1, g1⟩ := (HR1.out.keep (HWK.out _ HKW.out)).flat (g := Lck.cells) (m := 2) (fun _ => rfl) (by omega) hx
          subst e1
          clear hx
          obtain ⟨nm, hnm⟩ : ∃ q, x.name = q := ⟨_, rfl⟩
          have y0 : wr.cell? ⟨b1, o1 + k * 2, none⟩ = some (.string ⟨nm.toArray⟩) := by rw [← hnm]; exact g1 0 _ rfl
          rw [hnm] at HTS
          clear g1 hb1 hnm
          have HON := Lib.hid (one_str nm)
          go_wp2_with (at_builtin; refine wpList_append_own_at _ rfl _ _ 25 rfl W.heap.size 9 iI (.string ⟨#[]⟩) 1 16 Tryd.underlying25 hiI hzI0 hzI1 hzI2 rfl (by decide) _ _ _ rfl (HO.out.alloc _) ⟨wr.heap.size, 0, none⟩ 1 1 [.string ⟨(nm).toArray⟩] rfl rfl (one_at wr _ _) HON.out ?a3 ?a4 ?a5 ?_)
          case a3 => have := HPL.out; unfold maxLen; omega
          case a4 => have := HPL.out; omega
          case a5 => have := HKW.out.size; simp; omega
          intro v7 w7 hown hgrow _ hat
          have HO7 : Hid (w7.ownsRow W.heap.size 9 1 v7 (ps ++ [nm]).length (strV (ps ++ [nm]))) := Lib.hid (by rw [strV_snoc]; simpa using hown)
          have HB7 : Hid (Below W.heap.size W w7) := Lib.hid ((HKW.out.alloc HKW.out.size _).grown hgrow (by have := HKW.out.size; simp; omega) fun k e => (HO.out.lt k e).1)
          obtain ⟨A7, c7, e7, -, -, -⟩ := owns_rd hown
          subst e7
          clear hown hgrow hat
          go_wp2_with fail
          go_roundw
          case rel => exact ⟨k + 1, by omega, by go_num, by rw [HTS.out]; simpa using HO7, HB7⟩
          case measure => simp [intOf]; omega
        · obtain rfl : k = t.locks.length := by omega
          have lk : ¬ ((t.locks.length : Int) < (t.locks.length : Int)) := by omega
          clear hlt hkl
          rw [List.take_length] at HO ⊢
          have HOE := HO
          go_wp2_with fail
          clear q1
          go_loopw [3, 7] (fun lv iv wr => ∃ k : Nat, k ≤ t.conds.length ∧ iv = .int .i64 (k : Int) ∧ Hid (wr.ownsRow W.heap.size 9 1 lv ((t.cells.map (·.name) ++ t.locks.map (·.name)) ++ (t.conds.take k).map (·.name)).length (strV ((t.cells.map (·.name) ++ t.locks.map (·.name)) ++ (t.conds.take k).map (·.name)))) ∧ Hid (Below W.heap.size W wr)) (fun _ iv _ => t.conds.length - (intOf iv).toNat)
          case atStart => exact ⟨0, by omega, rfl, (by simpa using HOE), HKW⟩
          case round =>
            obtain ⟨k, hkl, rfl, HO, HKW⟩ := hrel
            obtain ⟨Ao, co, eo, -, -, -⟩ := owns_rd HO.out
            subst eo
            have q2 := (HXW.out.keep HKW.out).cell 2
            simp only [List.getElem?_toArray, List.getElem?_cons_zero, List.getElem?_cons_succ] at q2
            by_cases hlt : k < t.conds.length
            · obtain ⟨x, hx⟩ : ∃ x, t.conds[k]? = some x := ⟨_, List.getElem?_eq_getElem hlt⟩
              have HTS : Hid ((t.cells.map (·.name) ++ t.locks.map (·.name)) ++ (t.conds.take (k + 1)).map (·.name) = ((t.cells.map (·.name) ++ t.locks.map (·.name)) ++ (t.conds.take k).map (·.name)) ++ [x.name]) := Lib.hid (by rw [take_succ_of hx, List.map_append, ← List.append_assoc]; rfl)
              have HPL : Hid (((t.cells.map (·.name) ++ t.locks.map (·.name)) ++ (t.conds.take k).map (·.name)).length ≤ 100000) := Lib.hid (by have := HS.out; simp; omega)
              have lk : (k : Int) < (t.conds.length : Int) := by omega
              have lm : (k : Int) < 1000000 := by have := HS.out; omega
              have lk0 : (0 : Int) ≤ (k : Int) := by omega
              generalize (t.cells.map (·.name) ++ t.locks.map (·.name)) ++ (t.conds.take k).map (·.name) = ps at *
              obtain ⟨b1, o1, e1, hb1, g1⟩ := (HR2.out.keep (HWK.out _ HKW.out)).flat (g := Cnd.cells) (m := 2) (fun _ => rfl) (by omega) hx
              subst e1
              clear hx
              obtain ⟨nm, hnm⟩ : ∃ q, x.name = q := ⟨_, rfl⟩
              have y0 : wr.cell? ⟨b1, o1 + k * 2, none⟩ = some (.string ⟨nm.toArray⟩) := by rw [← hnm]; exact g1 0 _ rfl
              rw [hnm] at HTS
              clear g1 hb1 hnm
              have HON := Lib.hid (one_str nm)
              go_wp2_with (at_builtin; refine wpList_append_own_at _ rfl _ _ 25 rfl W.heap.size 9 iI (.string ⟨#[]⟩) 1 16 Tryd.underlying25 hiI hzI0 hzI1 hzI2 rfl (by decide) _ _ _ rfl (HO.out.alloc _) ⟨wr.heap.size, 0, none⟩ 1 1 [.string ⟨(nm).toArray⟩] rfl rfl (one_at wr _ _) HON.out ?a3 ?a4 ?a5 ?_)
              case a3 => have := HPL.out; unfold maxLen; omega
              case a4 => have := HPL.out; omega
              case a5 => have := HKW.out.size; simp; omega
              intro v7 w7 hown hgrow _ hat
              have HO7 : Hid (w7.ownsRow W.heap.size 9 1 v7 (ps ++ [nm]).length (strV (ps ++ [nm]))) := Lib.hid (by rw [strV_snoc]; simpa using hown)
              have HB7 : Hid (Below W.heap.size W w7) := Lib.hid ((HKW.out.alloc HKW.out.size _).grown hgrow (by have := HKW.out.size; simp; omega) fun k e => (HO.out.lt k e).1)
              obtain ⟨A7, c7, e7, -, -, -⟩ := owns_rd hown
              subst e7
              clear hown hgrow hat
              go_wp2_with fail
              go_roundw
              case rel => exact ⟨k + 1, by omega, by go_num, by rw [HTS.out]; simpa using HO7, HB7⟩
              case measure => simp [intOf]; omega
            · obtain rfl : k = t.conds.length := by omega
              have lk : ¬ ((t.conds.length : Int) < (t.conds.length : Int)) := by omega
              clear hlt hkl
              rw [List.take_length] at HO ⊢
              go_upto_region 15 with fail
              clear q2
              generalize hp3 : ((t.cells.map (·.name) ++ t.locks.map (·.name)) ++ t.conds.map (·.name)) = p3 at *
              have HP3 : Hid (p3 = ((t.cells.map (·.name) ++ t.locks.map (·.name)) ++ t.conds.map (·.name))) := Lib.hid hp3.symm
              clear hp3
              have q3 := (HXW.out.keep HKW.out).cell 3
              simp only [List.getElem?_toArray, List.getElem?_cons_zero, List.getElem?_cons_succ] at q3
              cases hA3 : A3 with
              | none =>
                have hs3 : t.futs = [] := by
                  rcases hs : t.futs with _ | ⟨s, r⟩
                  · rfl
                  · obtain ⟨_, _, hA, _⟩ := HR3.out (by rw [hs]; simp [strC])
                    rw [hA3] at hA; cases hA
                rw [hA3, hs3] at q3
                have HP4 : Hid (p3 = p3 ++ t.futs) := Lib.hid (by rw [hs3]; simp)
                have HLEE : Hid (p3.length ≤ co) := Lib.hid (by obtain ⟨A', c', e, h, _, _⟩ := owns_rd HO.out; simp only [Value.slice.injEq, true_and] at e; rw [e.2]; exact h)
                clear hA3 hs3
                go_upto_region 16 with (at_builtin; refine wpList_append_none rfl _ _ 25 rfl 9 iI Tryd.underlying25 hiI Ao p3.length co c3 HLEE.out rfl rfl ?_)
                clear q3
                have q3 := (HXW.out.keep HKW.out).cell 4
                simp only [List.getElem?_toArray, List.getElem?_cons_zero, List.getElem?_cons_succ] at q3
                cases hA4 : A4 with
                | none =>
                  have hs4 : t.thrs = [] := by
                    rcases hs : t.thrs with _ | ⟨s, r⟩
                    · rfl
                    · obtain ⟨_, _, hA, _⟩ := HR4.out (by rw [hs]; simp [strC])
                      rw [hA4] at hA; cases hA
                  rw [hA4, hs4] at q3
                  have HP5 : Hid (p3 = p3 ++ t.thrs) := Lib.hid (by rw [hs4]; simp)
                  have HLEE : Hid (p3.length ≤ co) := Lib.hid (by obtain ⟨A', c', e, h, _, _⟩ := owns_rd HO.out; simp only [Value.slice.injEq, true_and] at e; rw [e.2]; exact h)
                  clear hA4 hs4
                  go_upto_region 17 with (at_builtin; refine wpList_append_none rfl _ _ 25 rfl 9 iI Tryd.underlying25 hiI Ao p3.length co c4 HLEE.out rfl rfl ?_)
                  clear q3
                  go_wp2_with fail
                  have HPN : Hid (p3 = namesT t) := Lib.hid (by rw [HP5.out, HP4.out, HP3.out]; simp [namesT])
                  have HPL : Hid (p3.length ≤ 100000) := Lib.hid (by have h1 := congrArg List.length HPN.out; have := HS.out; simp only [namesT, List.length_append, List.length_map] at h1; omega)
                  have HRW : Hid (Rd wr (Ao) (strV p3)) := Lib.hid (by obtain ⟨A', c', e, _, _, h⟩ := owns_rd HO.out; injection e with e1; subst e1; exact h)
                  obtain ⟨wz4, rfl⟩ : ∃ q : World, q = wr := ⟨_, rfl⟩
                  go_loopw [8] (fun iv wr => ∃ k : Nat, k ≤ p3.length ∧ iv = .int .i64 (k : Int) ∧ Hid (∀ x ∈ p3.take k, nameB x = true) ∧ Hid (Below wz4.heap.size wz4 wr)) (fun iv _ => p3.length - (intOf iv).toNat)
                  case atStart => exact ⟨0, by omega, rfl, Lib.hid (by simp), Lib.hid (Below.refl _ _)⟩
                  case round =>
                    obtain ⟨k, hkl, rfl, HKS, HKV⟩ := hrel
                    obtain ⟨wr4, rfl⟩ : ∃ q : World, q = wr := ⟨_, rfl⟩
                    have HKW2 := Lib.hid (HKW.out.trans (HKV.out.mono HKW.out.size))
                    by_cases hlt : k < p3.length
                    · obtain ⟨x, hx⟩ : ∃ x, p3[k]? = some x := ⟨_, List.getElem?_eq_getElem hlt⟩
                      obtain ⟨b1, o1, e1, hb1, g1⟩ := (HRW.out.keep HKV.out) (by simp [strV]; omega)
                      have y0 : wr4.cell? ⟨b1, o1 + k, none⟩ = some (.string ⟨x.toArray⟩) := g1 k _ (by unfold strV; rw [List.getElem?_map, hx]; rfl)
                      have HXX := Lib.hid hx
                      have lk : (k : Int) < (p3.length : Int) := by omega
                      have lm : (k : Int) < 1000000 := by have := HPL.out; omega
                      have lk0 : (0 : Int) ≤ (k : Int) := by omega
                      subst e1
                      clear hx g1 hb1
                      go_wp2_with fail
                      refine (rname_any x wr4).mono ?_
                      rintro e w9 ⟨rfl, hb9⟩
                      have HKV9 := Lib.hid (HKV.out.trans (hb9.mono HKV.out.size))
                      have HKW9 := Lib.hid (HKW2.out.trans (hb9.mono HKW2.out.size))
                      clear hb9 y0
                      cases hnm : nameB x with
                      | false =>
                        go_wp2_with fail
                        go_ret
                        exact ⟨⟨false, rfl, fun h => by cases h⟩, HWK.out _ HKW9.out⟩
                      | true =>
                        have HKS2 : Hid (∀ x ∈ p3.take (k + 1), nameB x = true) := Lib.hid (mem_take_succ (Q := fun x => nameB x = true) HXX.out HKS.out hnm)
                        go_wp2_with fail
                        go_roundw
                        case rel => exact ⟨k + 1, by omega, by go_num, HKS2, HKV9⟩
                        case measure => simp [intOf]; omega
                    · obtain rfl : k = p3.length := by omega
                      have lk : ¬ ((p3.length : Int) < (p3.length : Int)) := by omega
                      have HNM : Hid (∀ n ∈ namesT t, nameB n = true) := Lib.hid (by have h := HKS.out; rw [List.take_length, HPN.out] at h; exact h)
                      have q6 := (HX.out.keep HKW2.out).cell 6
                      simp only [List.getElem?_toArray, List.getElem?_cons_zero, List.getElem?_cons_succ] at q6
                      go_upto_region 22 with fail
                      clear q6 lk
                      go_wp2_with fail
                      go_loopw [9] (fun iv wr => ∃ k : Nat, k ≤ t.events.length ∧ iv = .int .i64 (k : Int) ∧ Hid (∀ x ∈ t.events.take k, 1 ≤ x.kind ∧ x.kind ≤ 23) ∧ Hid (Below W.heap.size W wr)) (fun iv _ => t.events.length - (intOf iv).toNat)
                      case atStart => exact ⟨0, by omega, rfl, Lib.hid (by simp), HKW2⟩
                      case round =>
                        obtain ⟨k, hkl, rfl, HKS, HK5⟩ := hrel
                        obtain ⟨wr5, rfl⟩ : ∃ q : World, q = wr := ⟨_, rfl⟩
                        have q6 := (HX.out.keep HK5.out).cell 6
                        simp only [List.getElem?_toArray, List.getElem?_cons_zero, List.getElem?_cons_succ] at q6
                        by_cases hlt : k < t.events.length
                        · obtain ⟨x, hx⟩ : ∃ x, t.events[k]? = some x := ⟨_, List.getElem?_eq_getElem hlt⟩
                          obtain ⟨d, hd⟩ : ∃ d, ds[k]? = some d := ⟨_, List.getElem?_eq_getElem (by have := HDL.out; omega)⟩
                          have z1 : (t.events.zip ds)[k]? = some (x, d) := by rw [List.getElem?_zip_eq_some]; exact ⟨hx, hd⟩
                          obtain ⟨b1, o1, e1, hb1, g1⟩ := (HR6.out.keep (HWK.out _ HK5.out)).flat (g := evC) (m := 7) (fun _ => rfl) (by omega) z1
                          subst e1
                          have y1 : wr5.cell? ⟨b1, o1 + k * 7 + 1, none⟩ = some (.int .i64 x.kind) := g1 1 _ rfl
                          have HXX := Lib.hid hx
                          have lk : (k : Int) < (t.events.length : Int) := by omega
                          have lm : (k : Int) < 1000000 := by have := HS.out; omega
                          have lk0 : (0 : Int) ≤ (k : Int) := by omega
                          clear hx hd z1 g1 hb1
                          generalize hkd : x.kind = kd at *
                          have HKDE := Lib.hid hkd
                          clear hkd
                          by_cases h1 : kd < 1
                          · go_wp2_with fail
                            go_ret
                            exact ⟨⟨false, rfl, fun h => by cases h⟩, HWK.out _ HK5.out⟩
                          · by_cases h2 : 23 < kd
                            · go_wp2_with fail
                              go_ret
                              exact ⟨⟨false, rfl, fun h => by cases h⟩, HWK.out _ HK5.out⟩
                            · have HKS2 : Hid (∀ x ∈ t.events.take (k + 1), 1 ≤ x.kind ∧ x.kind ≤ 23) := Lib.hid (mem_take_succ (Q := fun x => 1 ≤ x.kind ∧ x.kind ≤ 23) HXX.out HKS.out (by rw [HKDE.out]; omega))
                              go_wp2_with fail
                              go_roundw
                              case rel => exact ⟨k + 1, by omega, by go_num, HKS2, HK5⟩
                              case measure => simp [intOf]; omega
                        · obtain rfl : k = t.events.length := by omega
                          have lk : ¬ ((t.events.length : Int) < (t.events.length : Int)) := by omega
                          go_wp2_with fail
                          go_ret
                          exact ⟨⟨true, rfl, fun _ => ⟨HNM.out, by have h := HKS.out; rw [List.take_length] at h; exact h⟩⟩, HWK.out _ HK5.out⟩
                | some ad =>
                  rw [hA4] at q3
                  have HRS := HR4.out
                  rw [hA4, strC_flat] at HRS
                  have HNW : Hid (∀ j u, (strV t.thrs)[j]? = some u → wr.cell? (ad.add j) = some u) := Lib.hid (fun j u hu => by
                    obtain ⟨b1, o1, e1, h1, h2⟩ := HRS (by have := (List.getElem?_eq_some_iff.1 hu).1; omega)
                    injection e1 with e1
                    subst e1
                    rw [show (⟨b1, o1, none⟩ : Addr).add j = ⟨b1, o1 + j, none⟩ by simp [Addr.add]]
                    exact ((HWK.out _ HKW.out).cell (p := ⟨b1, o1 + j, none⟩) h1).trans (h2 j u hu))
                  have HON : Hid (∀ u ∈ strV t.thrs, u.oneCell' = true) := Lib.hid (fun u hu => by
                    unfold strV at hu
                    obtain ⟨s, _, rfl⟩ := List.mem_map.1 hu
                    rfl)
                  have HLNN : Hid ((strV t.thrs).length = t.thrs.length * 1) := Lib.hid (by simp [strV])
                  have HPX : Hid (p3.length + t.thrs.length ≤ 100000) := Lib.hid (by rw [HP4.out, HP3.out]; have := HS.out; simp; omega)
                  clear HRS hA4
                  go_wp2_with (at_builtin; refine wpList_append_own_at _ rfl _ _ 25 rfl W.heap.size 9 iI (.string ⟨#[]⟩) 1 16 Tryd.underlying25 hiI hzI0 hzI1 hzI2 rfl (by decide) _ _ _ rfl HO.out ad t.thrs.length c4 (strV t.thrs) rfl HLNN.out HNW.out HON.out ?a3 ?a4 ?a5 ?_)
                  case a3 => have := HPX.out; unfold maxLen; omega
                  case a4 => have := HPX.out; omega
                  case a5 => have := HKW.out.size; omega
                  intro v4 w4 hown hgrow _ hat
                  have HK4x : Hid (Below W.heap.size W w4) := Lib.hid (HKW.out.grown hgrow (by have := HKW.out.size; omega) fun k e => (HO.out.lt k e).1)
                  obtain ⟨p5, hp5⟩ : ∃ q, p3 ++ t.thrs = q := ⟨_, rfl⟩
                  have HP5 : Hid (p5 = p3 ++ t.thrs) := Lib.hid hp5.symm
                  have hlp : p3.length + t.thrs.length = p5.length := by rw [← hp5]; simp
                  have HO4x : Hid (w4.ownsRow W.heap.size 9 1 v4 p5.length (strV p5)) := Lib.hid (by
                    have e : strV p5 = strV p3 ++ strV t.thrs := by rw [← hp5]; simp [strV]
                    rw [e, ← hlp]; exact hown)
                  rw [hlp] at hown
                  obtain ⟨C4, c42, e4x, -, -, -⟩ := owns_rd HO4x.out
                  subst e4x
                  clear hown hgrow hat hp5 hlp
                  go_upto_region 17 with fail
                  clear q3
                  go_wp2_with fail
                  have HPN : Hid (p5 = namesT t) := Lib.hid (by rw [HP5.out, HP4.out, HP3.out]; simp [namesT])
                  have HPL : Hid (p5.length ≤ 100000) := Lib.hid (by have h1 := congrArg List.length HPN.out; have := HS.out; simp only [namesT, List.length_append, List.length_map] at h1; omega)
                  have HRW : Hid (Rd w4 (C4) (strV p5)) := Lib.hid (by obtain ⟨A', c', e, _, _, h⟩ := owns_rd HO4x.out; injection e with e1; subst e1; exact h)
                  obtain ⟨wz4, rfl⟩ : ∃ q : World, q = w4 := ⟨_, rfl⟩
                  go_loopw [8] (fun iv wr => ∃ k : Nat, k ≤ p5.length ∧ iv = .int .i64 (k : Int) ∧ Hid (∀ x ∈ p5.take k, nameB x = true) ∧ Hid (Below wz4.heap.size wz4 wr)) (fun iv _ => p5.length - (intOf iv).toNat)
                  case atStart => exact ⟨0, by omega, rfl, Lib.hid (by simp), Lib.hid (Below.refl _ _)⟩
                  case round =>
                    obtain ⟨k, hkl, rfl, HKS, HKV⟩ := hrel
                    obtain ⟨wr4, rfl⟩ : ∃ q : World, q = wr := ⟨_, rfl⟩
                    have HKW2 := Lib.hid (HK4x.out.trans (HKV.out.mono HK4x.out.size))
                    by_cases hlt : k < p5.length
                    · obtain ⟨x, hx⟩ : ∃ x, p5[k]? = some x := ⟨_, List.getElem?_eq_getElem hlt⟩
                      obtain ⟨b1, o1, e1, hb1, g1⟩ := (HRW.out.keep HKV.out) (by simp [strV]; omega)
                      have y0 : wr4.cell? ⟨b1, o1 + k, none⟩ = some (.string ⟨x.toArray⟩) := g1 k _ (by unfold strV; rw [List.getElem?_map, hx]; rfl)
                      have HXX := Lib.hid hx
                      have lk : (k : Int) < (p5.length : Int) := by omega
                      have lm : (k : Int) < 1000000 := by have := HPL.out; omega
                      have lk0 : (0 : Int) ≤ (k : Int) := by omega
                      subst e1
                      clear hx g1 hb1
                      go_wp2_with fail
                      refine (rname_any x wr4).mono ?_
                      rintro e w9 ⟨rfl, hb9⟩
                      have HKV9 := Lib.hid (HKV.out.trans (hb9.mono HKV.out.size))
                      have HKW9 := Lib.hid (HKW2.out.trans (hb9.mono HKW2.out.size))
                      clear hb9 y0
                      cases hnm : nameB x with
                      | false =>
                        go_wp2_with fail
                        go_ret
                        exact ⟨⟨false, rfl, fun h => by cases h⟩, HWK.out _ HKW9.out⟩
                      | true =>
                        have HKS2 : Hid (∀ x ∈ p5.take (k + 1), nameB x = true) := Lib.hid (mem_take_succ (Q := fun x => nameB x = true) HXX.out HKS.out hnm)
                        go_wp2_with fail
                        go_roundw
                        case rel => exact ⟨k + 1, by omega, by go_num, HKS2, HKV9⟩
                        case measure => simp [intOf]; omega
                    · obtain rfl : k = p5.length := by omega
                      have lk : ¬ ((p5.length : Int) < (p5.length : Int)) := by omega
                      have HNM : Hid (∀ n ∈ namesT t, nameB n = true) := Lib.hid (by have h := HKS.out; rw [List.take_length, HPN.out] at h; exact h)
                      have q6 := (HX.out.keep HKW2.out).cell 6
                      simp only [List.getElem?_toArray, List.getElem?_cons_zero, List.getElem?_cons_succ] at q6
                      go_upto_region 22 with fail
                      clear q6 lk
                      go_wp2_with fail
                      go_loopw [9] (fun iv wr => ∃ k : Nat, k ≤ t.events.length ∧ iv = .int .i64 (k : Int) ∧ Hid (∀ x ∈ t.events.take k, 1 ≤ x.kind ∧ x.kind ≤ 23) ∧ Hid (Below W.heap.size W wr)) (fun iv _ => t.events.length - (intOf iv).toNat)
                      case atStart => exact ⟨0, by omega, rfl, Lib.hid (by simp), HKW2⟩
                      case round =>
                        obtain ⟨k, hkl, rfl, HKS, HK5⟩ := hrel
                        obtain ⟨wr5, rfl⟩ : ∃ q : World, q = wr := ⟨_, rfl⟩
                        have q6 := (HX.out.keep HK5.out).cell 6
                        simp only [List.getElem?_toArray, List.getElem?_cons_zero, List.getElem?_cons_succ] at q6
                        by_cases hlt : k < t.events.length
                        · obtain ⟨x, hx⟩ : ∃ x, t.events[k]? = some x := ⟨_, List.getElem?_eq_getElem hlt⟩
                          obtain ⟨d, hd⟩ : ∃ d, ds[k]? = some d := ⟨_, List.getElem?_eq_getElem (by have := HDL.out; omega)⟩
                          have z1 : (t.events.zip ds)[k]? = some (x, d) := by rw [List.getElem?_zip_eq_some]; exact ⟨hx, hd⟩
                          obtain ⟨b1, o1, e1, hb1, g1⟩ := (HR6.out.keep (HWK.out _ HK5.out)).flat (g := evC) (m := 7) (fun _ => rfl) (by omega) z1
                          subst e1
                          have y1 : wr5.cell? ⟨b1, o1 + k * 7 + 1, none⟩ = some (.int .i64 x.kind) := g1 1 _ rfl
                          have HXX := Lib.hid hx
                          have lk : (k : Int) < (t.events.length : Int) := by omega
                          have lm : (k : Int) < 1000000 := by have := HS.out; omega
                          have lk0 : (0 : Int) ≤ (k : Int) := by omega
                          clear hx hd z1 g1 hb1
                          generalize hkd : x.kind = kd at *
                          have HKDE := Lib.hid hkd
                          clear hkd
                          by_cases h1 : kd < 1
                          · go_wp2_with fail
                            go_ret
                            exact ⟨⟨false, rfl, fun h => by cases h⟩, HWK.out _ HK5.out⟩
                          · by_cases h2 : 23 < kd
                            · go_wp2_with fail
                              go_ret
                              exact ⟨⟨false, rfl, fun h => by cases h⟩, HWK.out _ HK5.out⟩
                            · have HKS2 : Hid (∀ x ∈ t.events.take (k + 1), 1 ≤ x.kind ∧ x.kind ≤ 23) := Lib.hid (mem_take_succ (Q := fun x => 1 ≤ x.kind ∧ x.kind ≤ 23) HXX.out HKS.out (by rw [HKDE.out]; omega))
                              go_wp2_with fail
                              go_roundw
                              case rel => exact ⟨k + 1, by omega, by go_num, HKS2, HK5⟩
                              case measure => simp [intOf]; omega
                        · obtain rfl : k = t.events.length := by omega
                          have lk : ¬ ((t.events.length : Int) < (t.events.length : Int)) := by omega
                          go_wp2_with fail
                          go_ret
                          exact ⟨⟨true, rfl, fun _ => ⟨HNM.out, by have h := HKS.out; rw [List.take_length] at h; exact h⟩⟩, HWK.out _ HK5.out⟩
              | some ad =>
                rw [hA3] at q3
                have HRS := HR3.out
                rw [hA3, strC_flat] at HRS
                have HNW : Hid (∀ j u, (strV t.futs)[j]? = some u → wr.cell? (ad.add j) = some u) := Lib.hid (fun j u hu => by
                  obtain ⟨b1, o1, e1, h1, h2⟩ := HRS (by have := (List.getElem?_eq_some_iff.1 hu).1; omega)
                  injection e1 with e1
                  subst e1
                  rw [show (⟨b1, o1, none⟩ : Addr).add j = ⟨b1, o1 + j, none⟩ by simp [Addr.add]]
                  exact ((HWK.out _ HKW.out).cell (p := ⟨b1, o1 + j, none⟩) h1).trans (h2 j u hu))
                have HON : Hid (∀ u ∈ strV t.futs, u.oneCell' = true) := Lib.hid (fun u hu => by
                  unfold strV at hu
                  obtain ⟨s, _, rfl⟩ := List.mem_map.1 hu
                  rfl)
                have HLNN : Hid ((strV t.futs).length = t.futs.length * 1) := Lib.hid (by simp [strV])
                have HPX : Hid (p3.length + t.futs.length ≤ 100000) := Lib.hid (by rw [HP3.out]; have := HS.out; simp; omega)
                clear HRS hA3
                go_wp2_with (at_builtin; refine wpList_append_own_at _ rfl _ _ 25 rfl W.heap.size 9 iI (.string ⟨#[]⟩) 1 16 Tryd.underlying25 hiI hzI0 hzI1 hzI2 rfl (by decide) _ _ _ rfl HO.out ad t.futs.length c3 (strV t.futs) rfl HLNN.out HNW.out HON.out ?a3 ?a4 ?a5 ?_)
                case a3 => have := HPX.out; unfold maxLen; omega
                case a4 => have := HPX.out; omega
                case a5 => have := HKW.out.size; omega
                intro v3 w3 hown hgrow _ hat
                have HK3x : Hid (Below W.heap.size W w3) := Lib.hid (HKW.out.grown hgrow (by have := HKW.out.size; omega) fun k e => (HO.out.lt k e).1)
                obtain ⟨p4, hp4⟩ : ∃ q, p3 ++ t.futs = q := ⟨_, rfl⟩
                have HP4 : Hid (p4 = p3 ++ t.futs) := Lib.hid hp4.symm
                have hlp : p3.length + t.futs.length = p4.length := by rw [← hp4]; simp
                have HO3x : Hid (w3.ownsRow W.heap.size 9 1 v3 p4.length (strV p4)) := Lib.hid (by
                  have e : strV p4 = strV p3 ++ strV t.futs := by rw [← hp4]; simp [strV]
                  rw [e, ← hlp]; exact hown)
                rw [hlp] at hown
                obtain ⟨C3, c32, e3x, -, -, -⟩ := owns_rd HO3x.out
                subst e3x
                clear hown hgrow hat hp4 hlp
                go_upto_region 16 with fail
                clear q3
                have q3 := (HXW.out.keep HK3x.out).cell 4
                simp only [List.getElem?_toArray, List.getElem?_cons_zero, List.getElem?_cons_succ] at q3
                cases hA4 : A4 with
                | none =>
                  have hs4 : t.thrs = [] := by
                    rcases hs : t.thrs with _ | ⟨s, r⟩
                    · rfl
                    · obtain ⟨_, _, hA, _⟩ := HR4.out (by rw [hs]; simp [strC])
                      rw [hA4] at hA; cases hA
                  rw [hA4, hs4] at q3
                  have HP5 : Hid (p4 = p4 ++ t.thrs) := Lib.hid (by rw [hs4]; simp)
                  have HLEE : Hid (p4.length ≤ c32) := Lib.hid (by obtain ⟨A', c', e, h, _, _⟩ := owns_rd HO3x.out; simp only [Value.slice.injEq, true_and] at e; rw [e.2]; exact h)
                  clear hA4 hs4
                  go_upto_region 17 with (at_builtin; refine wpList_append_none rfl _ _ 25 rfl 9 iI Tryd.underlying25 hiI C3 p4.length c32 c4 HLEE.out rfl rfl ?_)
                  clear q3
                  go_wp2_with fail
                  have HPN : Hid (p4 = namesT t) := Lib.hid (by rw [HP5.out, HP4.out, HP3.out]; simp [namesT])
                  have HPL : Hid (p4.length ≤ 100000) := Lib.hid (by have h1 := congrArg List.length HPN.out; have := HS.out; simp only [namesT, List.length_append, List.length_map] at h1; omega)
                  have HRW : Hid (Rd w3 (C3) (strV p4)) := Lib.hid (by obtain ⟨A', c', e, _, _, h⟩ := owns_rd HO3x.out; injection e with e1; subst e1; exact h)
                  obtain ⟨wz4, rfl⟩ : ∃ q : World, q = w3 := ⟨_, rfl⟩
                  go_loopw [8] (fun iv wr => ∃ k : Nat, k ≤ p4.length ∧ iv = .int .i64 (k : Int) ∧ Hid (∀ x ∈ p4.take k, nameB x = true) ∧ Hid (Below wz4.heap.size wz4 wr)) (fun iv _ => p4.length - (intOf iv).toNat)
                  case atStart => exact ⟨0, by omega, rfl, Lib.hid (by simp), Lib.hid (Below.refl _ _)⟩
                  case round =>
                    obtain ⟨k, hkl, rfl, HKS, HKV⟩ := hrel
                    obtain ⟨wr4, rfl⟩ : ∃ q : World, q = wr := ⟨_, rfl⟩
                    have HKW2 := Lib.hid (HK3x.out.trans (HKV.out.mono HK3x.out.size))
                    by_cases hlt : k < p4.length
                    · obtain ⟨x, hx⟩ : ∃ x, p4[k]? = some x := ⟨_, List.getElem?_eq_getElem hlt⟩
                      obtain ⟨b1, o1, e1, hb1, g1⟩ := (HRW.out.keep HKV.out) (by simp [strV]; omega)
                      have y0 : wr4.cell? ⟨b1, o1 + k, none⟩ = some (.string ⟨x.toArray⟩) := g1 k _ (by unfold strV; rw [List.getElem?_map, hx]; rfl)
                      have HXX := Lib.hid hx
                      have lk : (k : Int) < (p4.length : Int) := by omega
                      have lm : (k : Int) < 1000000 := by have := HPL.out; omega
                      have lk0 : (0 : Int) ≤ (k : Int) := by omega
                      subst e1
                      clear hx g1 hb1
                      go_wp2_with fail
                      refine (rname_any x wr4).mono ?_
                      rintro e w9 ⟨rfl, hb9⟩
                      have HKV9 := Lib.hid (HKV.out.trans (hb9.mono HKV.out.size))
                      have HKW9 := Lib.hid (HKW2.out.trans (hb9.mono HKW2.out.size))
                      clear hb9 y0
                      cases hnm : nameB x with
                      | false =>
                        go_wp2_with fail
                        go_ret
                        exact ⟨⟨false, rfl, fun h => by cases h⟩, HWK.out _ HKW9.out⟩
                      | true =>
                        have HKS2 : Hid (∀ x ∈ p4.take (k + 1), nameB x = true) := Lib.hid (mem_take_succ (Q := fun x => nameB x = true) HXX.out HKS.out hnm)
                        go_wp2_with fail
                        go_roundw
                        case rel => exact ⟨k + 1, by omega, by go_num, HKS2, HKV9⟩
                        case measure => simp [intOf]; omega
                    · obtain rfl : k = p4.length := by omega
                      have lk : ¬ ((p4.length : Int) < (p4.length : Int)) := by omega
                      have HNM : Hid (∀ n ∈ namesT t, nameB n = true) := Lib.hid (by have h := HKS.out; rw [List.take_length, HPN.out] at h; exact h)
                      have q6 := (HX.out.keep HKW2.out).cell 6
                      simp only [List.getElem?_toArray, List.getElem?_cons_zero, List.getElem?_cons_succ] at q6
                      go_upto_region 22 with fail
                      clear q6 lk
                      go_wp2_with fail
                      go_loopw [9] (fun iv wr => ∃ k : Nat, k ≤ t.events.length ∧ iv = .int .i64 (k : Int) ∧ Hid (∀ x ∈ t.events.take k, 1 ≤ x.kind ∧ x.kind ≤ 23) ∧ Hid (Below W.heap.size W wr)) (fun iv _ => t.events.length - (intOf iv).toNat)
                      case atStart => exact ⟨0, by omega, rfl, Lib.hid (by simp), HKW2⟩
                      case round =>
                        obtain ⟨k, hkl, rfl, HKS, HK5⟩ := hrel
                        obtain ⟨wr5, rfl⟩ : ∃ q : World, q = wr := ⟨_, rfl⟩
                        have q6 := (HX.out.keep HK5.out).cell 6
                        simp only [List.getElem?_toArray, List.getElem?_cons_zero, List.getElem?_cons_succ] at q6
                        by_cases hlt : k < t.events.length
                        · obtain ⟨x, hx⟩ : ∃ x, t.events[k]? = some x := ⟨_, List.getElem?_eq_getElem hlt⟩
                          obtain ⟨d, hd⟩ : ∃ d, ds[k]? = some d := ⟨_, List.getElem?_eq_getElem (by have := HDL.out; omega)⟩
                          have z1 : (t.events.zip ds)[k]? = some (x, d) := by rw [List.getElem?_zip_eq_some]; exact ⟨hx, hd⟩
                          obtain ⟨b1, o1, e1, hb1, g1⟩ := (HR6.out.keep (HWK.out _ HK5.out)).flat (g := evC) (m := 7) (fun _ => rfl) (by omega) z1
                          subst e1
                          have y1 : wr5.cell? ⟨b1, o1 + k * 7 + 1, none⟩ = some (.int .i64 x.kind) := g1 1 _ rfl
                          have HXX := Lib.hid hx
                          have lk : (k : Int) < (t.events.length : Int) := by omega
                          have lm : (k : Int) < 1000000 := by have := HS.out; omega
                          have lk0 : (0 : Int) ≤ (k : Int) := by omega
                          clear hx hd z1 g1 hb1
                          generalize hkd : x.kind = kd at *
                          have HKDE := Lib.hid hkd
                          clear hkd
                          by_cases h1 : kd < 1
                          · go_wp2_with fail
                            go_ret
                            exact ⟨⟨false, rfl, fun h => by cases h⟩, HWK.out _ HK5.out⟩
                          · by_cases h2 : 23 < kd
                            · go_wp2_with fail
                              go_ret
                              exact ⟨⟨false, rfl, fun h => by cases h⟩, HWK.out _ HK5.out⟩
                            · have HKS2 : Hid (∀ x ∈ t.events.take (k + 1), 1 ≤ x.kind ∧ x.kind ≤ 23) := Lib.hid (mem_take_succ (Q := fun x => 1 ≤ x.kind ∧ x.kind ≤ 23) HXX.out HKS.out (by rw [HKDE.out]; omega))
                              go_wp2_with fail
                              go_roundw
                              case rel => exact ⟨k + 1, by omega, by go_num, HKS2, HK5⟩
                              case measure => simp [intOf]; omega
                        · obtain rfl : k = t.events.length := by omega
                          have lk : ¬ ((t.events.length : Int) < (t.events.length : Int)) := by omega
                          go_wp2_with fail
                          go_ret
                          exact ⟨⟨true, rfl, fun _ => ⟨HNM.out, by have h := HKS.out; rw [List.take_length] at h; exact h⟩⟩, HWK.out _ HK5.out⟩
                | some ad =>
                  rw [hA4] at q3
                  have HRS := HR4.out
                  rw [hA4, strC_flat] at HRS
                  have HNW : Hid (∀ j u, (strV t.thrs)[j]? = some u → w3.cell? (ad.add j) = some u) := Lib.hid (fun j u hu => by
                    obtain ⟨b1, o1, e1, h1, h2⟩ := HRS (by have := (List.getElem?_eq_some_iff.1 hu).1; omega)
                    injection e1 with e1
                    subst e1
                    rw [show (⟨b1, o1, none⟩ : Addr).add j = ⟨b1, o1 + j, none⟩ by simp [Addr.add]]
                    exact ((HWK.out _ HK3x.out).cell (p := ⟨b1, o1 + j, none⟩) h1).trans (h2 j u hu))
                  have HON : Hid (∀ u ∈ strV t.thrs, u.oneCell' = true) := Lib.hid (fun u hu => by
                    unfold strV at hu
                    obtain ⟨s, _, rfl⟩ := List.mem_map.1 hu
                    rfl)
                  have HLNN : Hid ((strV t.thrs).length = t.thrs.length * 1) := Lib.hid (by simp [strV])
                  have HPX : Hid (p4.length + t.thrs.length ≤ 100000) := Lib.hid (by rw [HP4.out, HP3.out]; have := HS.out; simp; omega)
                  clear HRS hA4
                  go_wp2_with (at_builtin; refine wpList_append_own_at _ rfl _ _ 25 rfl W.heap.size 9 iI (.string ⟨#[]⟩) 1 16 Tryd.underlying25 hiI hzI0 hzI1 hzI2 rfl (by decide) _ _ _ rfl HO3x.out ad t.thrs.length c4 (strV t.thrs) rfl HLNN.out HNW.out HON.out ?a3 ?a4 ?a5 ?_)
                  case a3 => have := HPX.out; unfold maxLen; omega
                  case a4 => have := HPX.out; omega
                  case a5 => have := HK3x.out.size; omega
                  intro v4 w4 hown hgrow _ hat
                  have HK4x : Hid (Below W.heap.size W w4) := Lib.hid (HK3x.out.grown hgrow (by have := HK3x.out.size; omega) fun k e => (HO3x.out.lt k e).1)
                  obtain ⟨p5, hp5⟩ : ∃ q, p4 ++ t.thrs = q := ⟨_, rfl⟩
                  have HP5 : Hid (p5 = p4 ++ t.thrs) := Lib.hid hp5.symm
                  have hlp : p4.length + t.thrs.length = p5.length := by rw [← hp5]; simp
                  have HO4x : Hid (w4.ownsRow W.heap.size 9 1 v4 p5.length (strV p5)) := Lib.hid (by
                    have e : strV p5 = strV p4 ++ strV t.thrs := by rw [← hp5]; simp [strV]
                    rw [e, ← hlp]; exact hown)
                  rw [hlp] at hown
                  obtain ⟨C4, c42, e4x, -, -, -⟩ := owns_rd HO4x.out
                  subst e4x
                  clear hown hgrow hat hp5 hlp
                  go_upto_region 17 with fail
                  clear q3
                  go_wp2_with fail
                  have HPN : Hid (p5 = namesT t) := Lib.hid (by rw [HP5.out, HP4.out, HP3.out]; simp [namesT])
                  have HPL : Hid (p5.length ≤ 100000) := Lib.hid (by have h1 := congrArg List.length HPN.out; have := HS.out; simp only [namesT, List.length_append, List.length_map] at h1; omega)
                  have HRW : Hid (Rd w4 (C4) (strV p5)) := Lib.hid (by obtain ⟨A', c', e, _, _, h⟩ := owns_rd HO4x.out; injection e with e1; subst e1; exact h)
                  obtain ⟨wz4, rfl⟩ : ∃ q : World, q = w4 := ⟨_, rfl⟩
                  go_loopw [8] (fun iv wr => ∃ k : Nat, k ≤ p5.length ∧ iv = .int .i64 (k : Int) ∧ Hid (∀ x ∈ p5.take k, nameB x = true) ∧ Hid (Below wz4.heap.size wz4 wr)) (fun iv _ => p5.length - (intOf iv).toNat)
                  case atStart => exact ⟨0, by omega, rfl, Lib.hid (by simp), Lib.hid (Below.refl _ _)⟩
                  case round =>
                    obtain ⟨k, hkl, rfl, HKS, HKV⟩ := hrel
                    obtain ⟨wr4, rfl⟩ : ∃ q : World, q = wr := ⟨_, rfl⟩
                    have HKW2 := Lib.hid (HK4x.out.trans (HKV.out.mono HK4x.out.size))
                    by_cases hlt : k < p5.length
                    · obtain ⟨x, hx⟩ : ∃ x, p5[k]? = some x := ⟨_, List.getElem?_eq_getElem hlt⟩
                      obtain ⟨b1, o1, e1, hb1, g1⟩ := (HRW.out.keep HKV.out) (by simp [strV]; omega)
                      have y0 : wr4.cell? ⟨b1, o1 + k, none⟩ = some (.string ⟨x.toArray⟩) := g1 k _ (by unfold strV; rw [List.getElem?_map, hx]; rfl)
                      have HXX := Lib.hid hx
                      have lk : (k : Int) < (p5.length : Int) := by omega
                      have lm : (k : Int) < 1000000 := by have := HPL.out; omega
                      have lk0 : (0 : Int) ≤ (k : Int) := by omega
                      subst e1
                      clear hx g1 hb1
                      go_wp2_with fail
                      refine (rname_any x wr4).mono ?_
                      rintro e w9 ⟨rfl, hb9⟩
                      have HKV9 := Lib.hid (HKV.out.trans (hb9.mono HKV.out.size))
                      have HKW9 := Lib.hid (HKW2.out.trans (hb9.mono HKW2.out.size))
                      clear hb9 y0
                      cases hnm : nameB x with
                      | false =>
                        go_wp2_with fail
                        go_ret
                        exact ⟨⟨false, rfl, fun h => by cases h⟩, HWK.out _ HKW9.out⟩
                      | true =>
                        have HKS2 : Hid (∀ x ∈ p5.take (k + 1), nameB x = true) := Lib.hid (mem_take_succ (Q := fun x => nameB x = true) HXX.out HKS.out hnm)
                        go_wp2_with fail
                        go_roundw
                        case rel => exact ⟨k + 1, by omega, by go_num, HKS2, HKV9⟩
                        case measure => simp [intOf]; omega
                    · obtain rfl : k = p5.length := by omega
                      have lk : ¬ ((p5.length : Int) < (p5.length : Int)) := by omega
                      have HNM : Hid (∀ n ∈ namesT t, nameB n = true) := Lib.hid (by have h := HKS.out; rw [List.take_length, HPN.out] at h; exact h)
                      have q6 := (HX.out.keep HKW2.out).cell 6
                      simp only [List.getElem?_toArray, List.getElem?_cons_zero, List.getElem?_cons_succ] at q6
                      go_upto_region 22 with fail
                      clear q6 lk
                      go_wp2_with fail
                      go_loopw [9] (fun iv wr => ∃ k : Nat, k ≤ t.events.length ∧ iv = .int .i64 (k : Int) ∧ Hid (∀ x ∈ t.events.take k, 1 ≤ x.kind ∧ x.kind ≤ 23) ∧ Hid (Below W.heap.size W wr)) (fun iv _ => t.events.length - (intOf iv).toNat)
                      case atStart => exact ⟨0, by omega, rfl, Lib.hid (by simp), HKW2⟩
                      case round =>
                        obtain ⟨k, hkl, rfl, HKS, HK5⟩ := hrel
                        obtain ⟨wr5, rfl⟩ : ∃ q : World, q = wr := ⟨_, rfl⟩
                        have q6 := (HX.out.keep HK5.out).cell 6
                        simp only [List.getElem?_toArray, List.getElem?_cons_zero, List.getElem?_cons_succ] at q6
                        by_cases hlt : k < t.events.length
                        · obtain ⟨x, hx⟩ : ∃ x, t.events[k]? = some x := ⟨_, List.getElem?_eq_getElem hlt⟩
                          obtain ⟨d, hd⟩ : ∃ d, ds[k]? = some d := ⟨_, List.getElem?_eq_getElem (by have := HDL.out; omega)⟩
                          have z1 : (t.events.zip ds)[k]? = some (x, d) := by rw [List.getElem?_zip_eq_some]; exact ⟨hx, hd⟩
                          obtain ⟨b1, o1, e1, hb1, g1⟩ := (HR6.out.keep (HWK.out _ HK5.out)).flat (g := evC) (m := 7) (fun _ => rfl) (by omega) z1
                          subst e1
                          have y1 : wr5.cell? ⟨b1, o1 + k * 7 + 1, none⟩ = some (.int .i64 x.kind) := g1 1 _ rfl
                          have HXX := Lib.hid hx
                          have lk : (k : Int) < (t.events.length : Int) := by omega
                          have lm : (k : Int) < 1000000 := by have := HS.out; omega
                          have lk0 : (0 : Int) ≤ (k : Int) := by omega
                          clear hx hd z1 g1 hb1
                          generalize hkd : x.kind = kd at *
                          have HKDE := Lib.hid hkd
                          clear hkd
                          by_cases h1 : kd < 1
                          · go_wp2_with fail
                            go_ret
                            exact ⟨⟨false, rfl, fun h => by cases h⟩, HWK.out _ HK5.out⟩
                          · by_cases h2 : 23 < kd
                            · go_wp2_with fail
                              go_ret
                              exact ⟨⟨false, rfl, fun h => by cases h⟩, HWK.out _ HK5.out⟩
                            · have HKS2 : Hid (∀ x ∈ t.events.take (k + 1), 1 ≤ x.kind ∧ x.kind ≤ 23) := Lib.hid (mem_take_succ (Q := fun x => 1 ≤ x.kind ∧ x.kind ≤ 23) HXX.out HKS.out (by rw [HKDE.out]; omega))
                              go_wp2_with fail
                              go_roundw
                              case rel => exact ⟨k + 1, by omega, by go_num, HKS2, HK5⟩
                              case measure => simp [intOf]; omega
                        · obtain rfl : k = t.events.length := by omega
                          have lk : ¬ ((t.events.length : Int) < (t.events.length : Int)) := by omega
                          go_wp2_with fail
                          go_ret
                          exact ⟨⟨true, rfl, fun _ => ⟨HNM.out, by have h := HKS.out; rw [List.take_length] at h; exact h⟩⟩, HWK.out _ HK5.out⟩
end Go.Proofs.YtmnjmegejaejlaaDoor
