/-
  WALK: interleavelaw39.ReportLess.
-/
import Derived.Test.YtccpelfnkjckiaaDoorAwake39
import Derived.Test.YtccpelfnkjckiaaDoorRepGrpR
namespace Go.Proofs.YtccpelfnkjckiaaDoor
open Go.RowKit

/-- Both boxes: a lies at the first, a report whose sites are at most N at the second. -/
def LB (w : World) (a : Rep) (s1 t1 : Value) (N : Nat) (wi wx : World) : Prop :=
  ∃ (b : Rep) (s2 t2 : Value), b.ok ∧ b.sites.length ≤ N ∧ Blk wx w.heap.size 61 #[.int .i64 a.kind, s1, t1, .int .i64 a.count, .int .i64 a.best, .int .i64 a.score] ∧ Blk wx (w.heap.size + 1) 61 #[.int .i64 b.kind, s2, t2, .int .i64 b.count, .int .i64 b.best, .int .i64 b.score] ∧ Ints wi s1 a.sites ∧ Ints wi t1 a.starts ∧ Ints wi s2 b.sites ∧ Ints wi t2 b.starts ∧ Below w.heap.size w wx
theorem LB.score {w wi wx : World} {a b : Rep} {s1 t1 s2 t2 : Value} {N : Nat} (ha : a.ok) (hb : b.ok) (hN : b.sites.length ≤ N) (h1 : Blk wx w.heap.size 61 #[.int .i64 a.kind, s1, t1, .int .i64 a.count, .int .i64 a.best, .int .i64 a.score]) (h2 : Blk wx (w.heap.size + 1) 61 #[.int .i64 b.kind, s2, t2, .int .i64 b.count, .int .i64 b.best, .int .i64 b.score]) (i1 : Ints wi s1 a.sites) (i2 : Ints wi t1 a.starts) (i3 : Ints wi s2 b.sites) (i4 : Ints wi t2 b.starts) (hw : Below w.heap.size w wx) :
    LB w a s1 t1 N wi (wx.setCell ⟨w.heap.size + 1, 5, none⟩ (.int .i64 a.score)) :=
  ⟨{ b with score := a.score }, s2, t2, ⟨hb.1, hb.2.1, hb.2.2.1, ha.2.2.2⟩, hN, h1.far (by simp) _, h2.set_ 5 _, i1, i2, i3, i4, hw.setCell (by simp) _⟩
theorem LB.kind {w wi wx : World} {a b : Rep} {s1 t1 s2 t2 : Value} {N : Nat} (ha : a.ok) (hb : b.ok) (hN : b.sites.length ≤ N) (h1 : Blk wx w.heap.size 61 #[.int .i64 a.kind, s1, t1, .int .i64 a.count, .int .i64 a.best, .int .i64 a.score]) (h2 : Blk wx (w.heap.size + 1) 61 #[.int .i64 b.kind, s2, t2, .int .i64 b.count, .int .i64 b.best, .int .i64 b.score]) (i1 : Ints wi s1 a.sites) (i2 : Ints wi t1 a.starts) (i3 : Ints wi s2 b.sites) (i4 : Ints wi t2 b.starts) (hw : Below w.heap.size w wx) :
    LB w a s1 t1 N wi (wx.setCell ⟨w.heap.size + 1, 0, none⟩ (.int .i64 a.kind)) :=
  ⟨{ b with kind := a.kind }, s2, t2, ⟨ha.1, hb.2⟩, hN, h1.far (by simp) _, h2.set_ 0 _, i1, i2, i3, i4, hw.setCell (by simp) _⟩
theorem ints_rd {w : World} {A : Option Addr} {n c : Nat} {xs : List Int} (h : Ints w (.slice A n c) xs) : Rd w A (xs.map (Value.int .i64)) := by
  obtain ⟨A', c', e, _, _, _, hr⟩ := h
  injection e with e1 e2 e3
  rw [e1]; exact hr
theorem cell_far7 {w : World} {b c i j : Nat} {u v : Value} (h : w.cell? ⟨b, i, none⟩ = some u) (hne : c ≠ b) : (w.setCell ⟨c, j, none⟩ v).cell? ⟨b, i, none⟩ = some u :=
  (World.cell?_setCell_other (w := w) (a := ⟨c, j, none⟩) (b := ⟨b, i, none⟩) (v := v) (h := by intro e; injection e with e2 _ _; exact hne e2)).trans h
theorem lessR_self (a : Rep) : lessR a a = false := by
  rw [lessR_sites rfl rfl, cmpL_self]; rfl

set_option maxRecDepth 100000 in
set_option maxHeartbeats 4000000 in
theorem lawRLess (av bv : Value) (a b : Rep) (x : Nat) (w : World) (ha : IsRep w av a) (hb : IsRep w bv b) (hx : x < 256) (hT : Tab w) (hW : WordsAt w) :
    Calls Tryd.prog 7 #[av, bv, .int .u8 x] w fun e w' => e = .returned (.bool true) ∧ Below w.heap.size w w' := by
  have HAW := Lib.hid (awake39_from hT hW)
  have HTB := Lib.hid hT
  have HWB := Lib.hid hW
  clear hT hW
  obtain ⟨s1, t1, rfl, hs1, ht1, hao⟩ := ha
  obtain ⟨s2, t2, rfl, hs2, ht2, hbo⟩ := hb
  have HS1 := Lib.hid hs1
  have HS2 := Lib.hid hs2
  have HT1 := Lib.hid ht1
  have HT2 := Lib.hid ht2
  obtain ⟨A1, c1, rfl, -, -, -, -⟩ := hs1
  obtain ⟨A2, c2, rfl, -, -, -, -⟩ := hs2
  clear ht1 ht2
  have HAO := Lib.hid hao
  have HBO := Lib.hid hbo
  clear hao hbo
  have hb2 : Below w.heap.size w ((w.alloc (.cells #[.int .i64 a.kind, .slice A1 a.sites.length c1, t1, .int .i64 a.count, .int .i64 a.best, .int .i64 a.score] 61)).alloc (.cells #[.int .i64 b.kind, .slice A2 b.sites.length c2, t2, .int .i64 b.count, .int .i64 b.best, .int .i64 b.score] 61)) := by go_grown
  have HB2 := Lib.hid hb2
  clear hb2
  go_enter Tryd.func7, Tryd.ntmps7
  by_cases hbig : 60 < a.sites.length ∨ 60 < b.sites.length
  · by_cases h1 : 60 < a.sites.length
    · have l1 : (60 : Int) < a.sites.length := by omega
      clear hbig
      go_wp2_with fail
      refine (HAW.out _ HB2.out).mono ?_
      rintro e w' ⟨rfl, hb⟩
      have HB := Lib.hid hb
      clear hb
      go_wp2_with fail
      go_ret
      exact ⟨rfl, HB.out⟩
    · have l1 : ¬ (60 : Int) < a.sites.length := by omega
      have l2 : (60 : Int) < b.sites.length := by omega
      clear hbig
      go_wp2_with fail
      refine (HAW.out _ HB2.out).mono ?_
      rintro e w' ⟨rfl, hb⟩
      have HB := Lib.hid hb
      clear hb
      go_wp2_with fail
      go_ret
      exact ⟨rfl, HB.out⟩
  · have HL : Hid (LB w a (.slice A1 a.sites.length c1) t1 60 w ((w.alloc (.cells #[.int .i64 a.kind, .slice A1 a.sites.length c1, t1, .int .i64 a.count, .int .i64 a.best, .int .i64 a.score] 61)).alloc (.cells #[.int .i64 b.kind, .slice A2 b.sites.length c2, t2, .int .i64 b.count, .int .i64 b.best, .int .i64 b.score] 61))) := Lib.hid (by
      refine ⟨b, _, _, HBO.out, by omega, (Blk.new _ _ _).alloc _, ?_, HS1.out, HT1.out, HS2.out, HT2.out, HB2.out⟩
      have := Blk.new (w.alloc (.cells #[.int .i64 a.kind, .slice A1 a.sites.length c1, t1, .int .i64 a.count, .int .i64 a.best, .int .i64 a.score] 61)) 61 #[.int .i64 b.kind, .slice A2 b.sites.length c2, t2, .int .i64 b.count, .int .i64 b.best, .int .i64 b.score]
      simpa using this)
    have l1 : ¬ (60 : Int) < a.sites.length := by omega
    have l2 : ¬ (60 : Int) < b.sites.length := by omega
    have HAL : Hid (a.sites.length ≤ 60) := Lib.hid (by omega)
    go_upto_if 20 with fail
    clear l1 l2 hbig HB2 HS2 HT2
    generalize (w.alloc (.cells #[.int .i64 a.kind, .slice A1 a.sites.length c1, t1, .int .i64 a.count, .int .i64 a.best, .int .i64 a.score] 61)).alloc (.cells #[.int .i64 b.kind, .slice A2 b.sites.length c2, t2, .int .i64 b.count, .int .i64 b.best, .int .i64 b.score] 61) = W at HL ⊢
    go_cut [3] from 21 (fun v wx => v = .pointer (some ⟨w.heap.size, 0, none⟩) ∧ Hid (LB w a (.slice A1 a.sites.length c1) t1 60 w wx))
    case first =>
      obtain ⟨b1, s21, t21, hbo3, hbl3, B1, B2, i1, i2, i3, i4, hbw⟩ := HL.out
      have HX := Lib.hid (LB.score HAO.out hbo3 hbl3 B1 B2 i1 i2 i3 i4 hbw)
      have r1 := B1.cell 5
      have r2 := B2.cell 5
      have r3 := B2.frozen 5
      simp only [List.getElem?_toArray, List.getElem?_cons_zero, List.getElem?_cons_succ] at r1 r2
      clear hbo3 hbl3 B1 B2 i1 i2 i3 i4 hbw
      by_cases hodd : (x : Int) % 2 = 1
      · have e1 : ((x : Int) % 2 == (1 : Int)) = true := by rw [hodd]; rfl
        go_wp2_with fail
        go_meet
        exact ⟨rfl, HX⟩
      · have e1 : ((x : Int) % 2 == (1 : Int)) = false := by simpa using hodd
        go_wp2_with fail
        go_meet
        exact ⟨rfl, HL⟩
    case rest =>
      obtain ⟨rfl, HL1⟩ := hcut
      clear HL
      go_upto_if 27 with fail
      go_cut [3] from 28 (fun v wx => v = .pointer (some ⟨w.heap.size, 0, none⟩) ∧ Hid (LB w a (.slice A1 a.sites.length c1) t1 60 w wx))
      case first =>
        obtain ⟨b2, s22, t22, hbo3, hbl3, B1, B2, i1, i2, i3, i4, hbw⟩ := HL1.out
        have HX := Lib.hid (LB.kind HAO.out hbo3 hbl3 B1 B2 i1 i2 i3 i4 hbw)
        have r1 := B1.cell 0
        have r2 := B2.cell 0
        have r3 := B2.frozen 0
        simp only [List.getElem?_toArray, List.getElem?_cons_zero] at r1 r2
        clear hbo3 hbl3 B1 B2 i1 i2 i3 i4 hbw
        by_cases hodd : (x : Int) / 2 % 2 = 1
        · have e1 : ((x : Int) / 2 % 2 == (1 : Int)) = true := by rw [hodd]; rfl
          go_wp2_with fail
          go_meet
          exact ⟨rfl, HX⟩
        · have e1 : ((x : Int) / 2 % 2 == (1 : Int)) = false := by simpa using hodd
          go_wp2_with fail
          go_meet
          exact ⟨rfl, HL1⟩
      case rest =>
        obtain ⟨rfl, HL2⟩ := hcut
        clear HL1
        go_upto_if 34 with fail
        go_cut [3] from 33 (fun v wx => v = .pointer (some ⟨w.heap.size, 0, none⟩) ∧ Hid (LB w a (.slice A1 a.sites.length c1) t1 120 wx wx))
        case first =>
          obtain ⟨b3, s23, t23, hbo3, hbl3, B1, B2, i1, i2, i3, i4, hbw⟩ := HL2.out
          by_cases hodd : (x : Int) / 4 % 2 = 1
          · have e1 : ((x : Int) / 4 % 2 == (1 : Int)) = true := by rw [hodd]; rfl
            obtain ⟨As, cs, rfl, -, -, hx3, -⟩ := id i3
            obtain ⟨-, -, -, -, -, hx1, -⟩ := id i1
            obtain ⟨iI, hiI, hzI0, hzI1, hzI2⟩ := info_parts info_int
            have HBO3 := Lib.hid hbo3
            have HBW := Lib.hid hbw
            have HB1 := Lib.hid B1
            have HB2 := Lib.hid B2
            have HI1 := Lib.hid i1
            have HI2 := Lib.hid i2
            have HI3 := Lib.hid i3
            have HI4 := Lib.hid i4
            have HXX : Hid (∀ y ∈ a.sites ++ b3.sites, I64 y) := Lib.hid (fun y hy => by
              rcases List.mem_append.1 hy with h | h
              · exact hx1 y h
              · exact hx3 y h)
            have hal := HAL.out
            have HBL : Hid (b3.sites.length ≤ 60) := Lib.hid hbl3
            have HLN : Hid ((a.sites.map (Value.int .i64)).length = a.sites.length * 1) := Lib.hid (by simp)
            have HLN2 : Hid ((b3.sites.map (Value.int .i64)).length = b3.sites.length * 1) := Lib.hid (by simp)
            have HRS : Hid (Rd wc.drew A1 (a.sites.map (Value.int .i64))) := Lib.hid (ints_rd ((i1.keep hbw).keep (Below.refl _ _).drew))
            have HON : Hid (∀ u ∈ a.sites.map (Value.int .i64), u.oneCell' = true) := Lib.hid (ones_int _)
            have HON2 : Hid (∀ u ∈ b3.sites.map (Value.int .i64), u.oneCell' = true) := Lib.hid (ones_int _)
            have HM1 : Hid (0 + a.sites.length ≤ maxLen) := by refine Lib.hid ?_; unfold maxLen; omega
            have HM2 : Hid ((0 + a.sites.length) * 8 ≤ 140737488355328) := by refine Lib.hid ?_; omega
            have HM3 : Hid (a.sites.length + b3.sites.length ≤ maxLen) := by refine Lib.hid ?_; unfold maxLen; omega
            have HM4 : Hid ((a.sites.length + b3.sites.length) * 8 ≤ 140737488355328) := by refine Lib.hid ?_; omega
            have HSOF : Hid (∀ w', Below wc.heap.size wc w' → w'.cell? ⟨w.heap.size, 1, none⟩ = some (.slice A1 a.sites.length c1) ∧ w'.cell? ⟨w.heap.size + 1, 1, none⟩ = some (.slice As b3.sites.length cs)) := Lib.hid (fun w' h => by
              have r1 := (HB1.out.keep h).cell 1
              have r2 := (HB2.out.keep h).cell 1
              simp only [List.getElem?_toArray, List.getElem?_cons_zero, List.getElem?_cons_succ] at r1 r2
              exact ⟨r1, r2⟩)
            clear hbo3 hbl3 B1 B2 i1 i2 i3 i4 hbw hx1 hx3 hal hodd
            go_wp2_with fail
            clear e1
            have hs4 := HSOF.out wc (Below.refl _ _)
            obtain ⟨z1, z2⟩ := hs4
            go_region_law (first
              | (refine step_append_rdR rfl (.const (.slice none 0 0)) (.tmp 36) 33 rfl wc.heap.size 3 iI (.int .i64 0) 1 8 Tryd.underlying33 hiI hzI0 hzI1 hzI2 rfl (by decide) (.slice none 0 0) 0 [] (by simp [Act.eval]) (World.ownsRow_nil _ _ _ _) A1 a.sites.length c1 (a.sites.map (Value.int .i64)) (by simp [Act.eval]) HLN.out HRS.out HON.out HM1.out HM2.out (Nat.le_refl _) ?_; intro v5 w5 hown hg hat; simp only [Nat.zero_add, List.nil_append] at hown; have HO5 := Lib.hid hown; have HB5 : Hid (Below wc.heap.size wc w5) := Lib.hid (Below.trans (Below.refl _ _).drew ((Below.refl _ _).grown hg (Nat.le_refl _) fun k e => by cases e)); obtain ⟨A5, c5, hv5, -, -, -⟩ := owns_rd hown; subst hv5; obtain ⟨hs5, ht5⟩ := HSOF.out w5 HB5.out; have HZ5 : Hid (wc.heap.size ≤ w5.heap.size) := Lib.hid HB5.out.size; have HRS2 : Hid (Rd w5 As (b3.sites.map (Value.int .i64))) := Lib.hid (ints_rd ((HI3.out.keep HBW.out).keep HB5.out)); clear hown hg hat)
              | (refine step_append_rdR rfl (.tmp 37) (.tmp 39) 33 rfl wc.heap.size 3 iI (.int .i64 0) 1 8 Tryd.underlying33 hiI hzI0 hzI1 hzI2 rfl (by decide) (.slice A5 a.sites.length c5) a.sites.length (a.sites.map (Value.int .i64)) (by simp [Act.eval]) HO5.out As b3.sites.length cs (b3.sites.map (Value.int .i64)) (by simp [Act.eval]) HLN2.out HRS2.out HON2.out HM3.out HM4.out HZ5.out ?_; intro v7 w7 hown hg hat; have HO7 := Lib.hid hown; have HB7 : Hid (Below wc.heap.size wc w7) := Lib.hid (HB5.out.grown hg HZ5.out fun k e => (HO5.out.lt k e).1); obtain ⟨A7, c7, hv7, -, -, -⟩ := owns_rd hown; subst hv7; obtain ⟨hs7, ht7⟩ := HSOF.out w7 HB7.out; have hf7 : w7.frozen? ⟨w.heap.size + 1, 1, none⟩ = false := (HB2.out.keep HB7.out).frozen 1; clear hown hg hat))
            all_goals
             have HX : Hid (LB w a (.slice A1 a.sites.length c1) t1 120 (w7.setCell ⟨w.heap.size + 1, 1, none⟩ (.slice A7 (a.sites.length + b3.sites.length) c7)) (w7.setCell ⟨w.heap.size + 1, 1, none⟩ (.slice A7 (a.sites.length + b3.sites.length) c7))) := Lib.hid (by
               have hb7 := HBW.out.trans (HB7.out.mono HBW.out.size)
               have hbx : Below w.heap.size w (w7.setCell ⟨w.heap.size + 1, 1, none⟩ (.slice A7 (a.sites.length + b3.sites.length) c7)) := hb7.setCell (by simp) _
               have hlt := HB2.out.lt
               have ho : Own w7 wc.heap.size (.slice A7 (a.sites.length + b3.sites.length) c7) (a.sites ++ b3.sites) := ⟨by simpa using HO7.out, HXX.out⟩
               have ho2 : Own (w7.setCell ⟨w.heap.size + 1, 1, none⟩ (.slice A7 (a.sites.length + b3.sites.length) c7)) wc.heap.size (.slice A7 (a.sites.length + b3.sites.length) c7) (a.sites ++ b3.sites) := ⟨ho.1.kept (grownBy_set0 _ _ _ _) (own_ne ho.1 (by omega)), ho.2⟩
               exact ⟨{ b3 with sites := a.sites ++ b3.sites }, _, t23, HBO3.out, by have := HAL.out; have := HBL.out; simp; omega, (HB1.out.keep HB7.out).far (by simp) _, (HB2.out.keep HB7.out).set_ 1 _, HI1.out.keep hbx, HI2.out.keep hbx, ho2.ints, HI4.out.keep hbx, hbx⟩)
             go_wp2_with fail
             go_meet
             exact ⟨rfl, HX⟩
          · have e1 : ((x : Int) / 4 % 2 == (1 : Int)) = false := by simpa using hodd
            have HX : Hid (LB w a (.slice A1 a.sites.length c1) t1 120 wc wc) := Lib.hid ⟨b3, _, _, hbo3, by omega, B1, B2, i1.keep hbw, i2.keep hbw, i3.keep hbw, i4.keep hbw, hbw⟩
            clear hbo3 hbl3 B1 B2 i1 i2 i3 i4 hbw
            go_wp2_with fail
            go_meet
            exact ⟨rfl, HX⟩
        case rest =>
          obtain ⟨rfl, HL3⟩ := hcut
          clear HL2
          obtain ⟨b3, s23, t23, hbo3, hbl3, B1, B2, i1, i2, i3, i4, hbw⟩ := HL3.out
          have HX := Lib.hid (And.intro hbo3 (And.intro B1 (And.intro B2 (And.intro i1 (And.intro i2 (And.intro i3 (And.intro i4 hbw)))))))
          have HSOF : Hid (∀ w', Below wc.heap.size wc w' → w'.cell? ⟨w.heap.size, 0, none⟩ = some (.int .i64 a.kind) ∧ w'.cell? ⟨w.heap.size, 1, none⟩ = some (.slice A1 a.sites.length c1) ∧ w'.cell? ⟨w.heap.size, 2, none⟩ = some (t1) ∧ w'.cell? ⟨w.heap.size, 3, none⟩ = some (.int .i64 a.count) ∧ w'.cell? ⟨w.heap.size, 4, none⟩ = some (.int .i64 a.best) ∧ w'.cell? ⟨w.heap.size, 5, none⟩ = some (.int .i64 a.score) ∧ w'.cell? ⟨w.heap.size + 1, 0, none⟩ = some (.int .i64 b3.kind) ∧ w'.cell? ⟨w.heap.size + 1, 1, none⟩ = some (s23) ∧ w'.cell? ⟨w.heap.size + 1, 2, none⟩ = some (t23) ∧ w'.cell? ⟨w.heap.size + 1, 3, none⟩ = some (.int .i64 b3.count) ∧ w'.cell? ⟨w.heap.size + 1, 4, none⟩ = some (.int .i64 b3.best) ∧ w'.cell? ⟨w.heap.size + 1, 5, none⟩ = some (.int .i64 b3.score)) := Lib.hid (fun w' h => ⟨(HX.out.2.1.keep h).cell 0, (HX.out.2.1.keep h).cell 1, (HX.out.2.1.keep h).cell 2, (HX.out.2.1.keep h).cell 3, (HX.out.2.1.keep h).cell 4, (HX.out.2.1.keep h).cell 5, (HX.out.2.2.1.keep h).cell 0, (HX.out.2.2.1.keep h).cell 1, (HX.out.2.2.1.keep h).cell 2, (HX.out.2.2.1.keep h).cell 3, (HX.out.2.2.1.keep h).cell 4, (HX.out.2.2.1.keep h).cell 5⟩)
          have hs0 := HSOF.out _ (Below.refl _ _)
          obtain ⟨z1, z2, z3, z4, z5, z6, z7, z8, z9, z10, z11, z12⟩ := hs0
          have HR : Hid (∀ w', Below wc.heap.size wc w' → IsRep w' (.agg #[.int .i64 a.kind, .slice A1 a.sites.length c1, t1, .int .i64 a.count, .int .i64 a.best, .int .i64 a.score]) a ∧ IsRep w' (.agg #[.int .i64 b3.kind, s23, t23, .int .i64 b3.count, .int .i64 b3.best, .int .i64 b3.score]) b3) := Lib.hid (fun w' h => ⟨⟨_, _, rfl, HX.out.2.2.2.1.keep h, HX.out.2.2.2.2.1.keep h, HAO.out⟩, ⟨_, _, rfl, HX.out.2.2.2.2.2.1.keep h, HX.out.2.2.2.2.2.2.1.keep h, HX.out.1⟩⟩)
          have HAW2 := Lib.hid (awake39_from (HTB.out.keep HX.out.2.2.2.2.2.2.2 HTB.out.lt) (HWB.out.keep HX.out.2.2.2.2.2.2.2 HWB.out.1))
          clear hbo3 hbl3 B1 B2 i1 i2 i3 i4 hbw HL3
          obtain ⟨p, hp⟩ : ∃ p, lessR a b3 = p := ⟨_, rfl⟩
          obtain ⟨q, hq⟩ : ∃ q, lessR b3 a = q := ⟨_, rfl⟩
          have HP := Lib.hid hp
          have HQ := Lib.hid hq
          clear hp hq
          cases p <;> cases q
          all_goals
            have HL1 : Hid (∀ w', Below wc.heap.size wc w' → Calls Tryd.prog 23 #[.agg #[.int .i64 a.kind, .slice A1 a.sites.length c1, t1, .int .i64 a.count, .int .i64 a.best, .int .i64 a.score], .agg #[.int .i64 b3.kind, s23, t23, .int .i64 b3.count, .int .i64 b3.best, .int .i64 b3.score]] w' fun e w2 => e = .returned (.bool _) ∧ Below wc.heap.size wc w2) := Lib.hid (fun w' h => (less_any _ _ a b3 w' (HR.out w' h).1 (HR.out w' h).2).mono (fun e w2 r => ⟨by rw [r.1, HP.out], h.trans (r.2.below.mono h.size)⟩))
            have HL2 : Hid (∀ w', Below wc.heap.size wc w' → Calls Tryd.prog 23 #[.agg #[.int .i64 b3.kind, s23, t23, .int .i64 b3.count, .int .i64 b3.best, .int .i64 b3.score], .agg #[.int .i64 a.kind, .slice A1 a.sites.length c1, t1, .int .i64 a.count, .int .i64 a.best, .int .i64 a.score]] w' fun e w2 => e = .returned (.bool _) ∧ Below wc.heap.size wc w2) := Lib.hid (fun w' h => (less_any _ _ b3 a w' (HR.out w' h).2 (HR.out w' h).1).mono (fun e w2 r => ⟨by rw [r.1, HQ.out], h.trans (r.2.below.mono h.size)⟩))
            have HL3 : Hid (∀ w', Below wc.heap.size wc w' → Calls Tryd.prog 23 #[.agg #[.int .i64 a.kind, .slice A1 a.sites.length c1, t1, .int .i64 a.count, .int .i64 a.best, .int .i64 a.score], .agg #[.int .i64 a.kind, .slice A1 a.sites.length c1, t1, .int .i64 a.count, .int .i64 a.best, .int .i64 a.score]] w' fun e w2 => e = .returned (.bool false) ∧ Below wc.heap.size wc w2) := Lib.hid (fun w' h => (less_any _ _ a a w' (HR.out w' h).1 (HR.out w' h).1).mono (fun e w2 r => ⟨by rw [r.1, lessR_self], h.trans (r.2.below.mono h.size)⟩))
            have HR1 : Hid (∀ w', Below wc.heap.size wc w' → Calls Tryd.prog 24 #[.agg #[.int .i64 a.kind, .slice A1 a.sites.length c1, t1, .int .i64 a.count, .int .i64 a.best, .int .i64 a.score], .agg #[.int .i64 b3.kind, s23, t23, .int .i64 b3.count, .int .i64 b3.best, .int .i64 b3.score]] w' fun e w2 => e = .returned (.bool _) ∧ Below wc.heap.size wc w2) := Lib.hid (fun w' h => (rless_any _ _ a b3 w' (HR.out w' h).1 (HR.out w' h).2).mono (fun e w2 r => ⟨by rw [r.1, HP.out], h.trans (r.2.below.mono h.size)⟩))
            have HR2 : Hid (∀ w', Below wc.heap.size wc w' → Calls Tryd.prog 24 #[.agg #[.int .i64 b3.kind, s23, t23, .int .i64 b3.count, .int .i64 b3.best, .int .i64 b3.score], .agg #[.int .i64 a.kind, .slice A1 a.sites.length c1, t1, .int .i64 a.count, .int .i64 a.best, .int .i64 a.score]] w' fun e w2 => e = .returned (.bool _) ∧ Below wc.heap.size wc w2) := Lib.hid (fun w' h => (rless_any _ _ b3 a w' (HR.out w' h).2 (HR.out w' h).1).mono (fun e w2 r => ⟨by rw [r.1, HQ.out], h.trans (r.2.below.mono h.size)⟩))
            go_upto_region 9 with fail
            go_region_held3 (fun w' => w'.cell? ⟨w.heap.size, 0, none⟩ = some (.int .i64 a.kind) ∧ w'.cell? ⟨w.heap.size, 1, none⟩ = some (.slice A1 a.sites.length c1) ∧ w'.cell? ⟨w.heap.size, 2, none⟩ = some (t1) ∧ w'.cell? ⟨w.heap.size, 3, none⟩ = some (.int .i64 a.count) ∧ w'.cell? ⟨w.heap.size, 4, none⟩ = some (.int .i64 a.best) ∧ w'.cell? ⟨w.heap.size, 5, none⟩ = some (.int .i64 a.score) ∧ w'.cell? ⟨w.heap.size + 1, 0, none⟩ = some (.int .i64 b3.kind) ∧ w'.cell? ⟨w.heap.size + 1, 1, none⟩ = some (s23) ∧ w'.cell? ⟨w.heap.size + 1, 2, none⟩ = some (t23) ∧ w'.cell? ⟨w.heap.size + 1, 3, none⟩ = some (.int .i64 b3.count) ∧ w'.cell? ⟨w.heap.size + 1, 4, none⟩ = some (.int .i64 b3.best) ∧ w'.cell? ⟨w.heap.size + 1, 5, none⟩ = some (.int .i64 b3.score)) (first | assumption | exact HSOF.out _ (Below.refl _ _).drew) (first
              | (go_at_call 23; (with_reducible refine (HL1.out _ (by exact (Below.refl _ _).drew)).mono ?_); rintro e w2 ⟨rfl, hb2⟩; have hs2 := HSOF.out _ hb2)
              | (go_at_call 24; (with_reducible refine (HR1.out _ (by exact hb2)).mono ?_); rintro e w3 ⟨rfl, hb3⟩; have hs3 := HSOF.out _ hb3)
              | (go_at_call 23; (with_reducible refine (HL2.out _ (by exact hb3)).mono ?_); rintro e w4 ⟨rfl, hb4⟩; have hs4 := HSOF.out _ hb4)
              | (go_at_call 24; (with_reducible refine (HR2.out _ (by exact hb4)).mono ?_); rintro e w5 ⟨rfl, hb5⟩; have hs5 := HSOF.out _ hb5)
              | (go_at_call 23; (with_reducible refine (HL3.out _ (by exact hb5)).mono ?_); rintro e w6 ⟨rfl, hb6⟩; have hs6 := HSOF.out _ hb6)
              | (go_at_call 18; (with_reducible refine (HAW2.out _ (by exact hb6)).mono ?_); rintro e w7 ⟨rfl, hb7⟩; have hs7 := HSOF.out _ hb7))
            have HB7 := Lib.hid (HX.out.2.2.2.2.2.2.2.trans (hb7.mono HX.out.2.2.2.2.2.2.2.size))
            clear hs2 hs3 hs4 hs5 hs6 hs7 hb2 hb3 hb4 hb5 hb6 hb7
            go_wp2_with fail
            go_ret
            exact ⟨rfl, HB7.out⟩
end Go.Proofs.YtccpelfnkjckiaaDoor
