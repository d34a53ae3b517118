/-
  WALK: interleavelaw16.TraceTells.
-/
import Derived.Test.YtmnjmegejaejlaaDoorTT34
import Derived.Test.YtmnjmegejaejlaaDoorTT37
import Derived.Test.YtmnjmegejaejlaaDoorTT44
import Derived.Test.YtmnjmegejaejlaaDoorTT47
import Derived.Test.YtmnjmegejaejlaaDoorTT48
import Derived.Test.YtmnjmegejaejlaaDoorTT45
import Derived.Test.YtmnjmegejaejlaaDoorTT29
namespace Go.Proofs.YtmnjmegejaejlaaDoor
open Go.RowKit

theorem t_prt (t : Trc) (h : t.ok) (hd : ∀ e ∈ t.events, (∀ x ∈ e.deps, I64 x) ∧ ∀ x ∈ e.frm, I64 x) (hn : ∀ n ∈ namesT t, nameB n = true) (hk : ∀ x ∈ t.events, 1 ≤ x.kind ∧ x.kind ≤ 23) : ∀ it ∈ t.items, it.ok ∧ it.prt := by
  obtain ⟨o1, o2, o3, o4⟩ := h
  intro it hit
  unfold Trc.items at hit
  unfold namesT at hn
  simp only [List.mem_append, List.mem_map] at hit hn
  rcases hit with ⟨c, hc, rfl⟩ | ⟨c, hc, rfl⟩ | ⟨c, hc, rfl⟩ | ⟨c, hc, rfl⟩ | ⟨c, hc, rfl⟩ | ⟨c, hc, rfl⟩ | ⟨c, hc, rfl⟩
  · exact ⟨o1 c hc, hn _ (.inl ⟨c, hc, rfl⟩)⟩
  · exact ⟨trivial, hn _ (.inr (.inl ⟨c, hc, rfl⟩))⟩
  · exact ⟨o2 c hc, hn _ (.inr (.inr (.inl ⟨c, hc, rfl⟩)))⟩
  · exact ⟨trivial, hn _ (.inr (.inr (.inr (.inl hc))))⟩
  · exact ⟨trivial, hn _ (.inr (.inr (.inr (.inr hc))))⟩
  · exact ⟨o3 c hc, trivial⟩
  · exact ⟨o4 c hc, hk c hc, (hd c hc).1, (hd c hc).2⟩
set_option maxRecDepth 100000 in
set_option maxHeartbeats 16000000 in
theorem lawTTells (t : Trc) (vv : Value) (w : World) (ht : IsTrc w vv t) (hf : Fits t) (hp : PT w) : Calls Tryd.prog 4 #[vv] w fun e w' => e = .returned (.bool true) ∧ Below w.heap.size w w' := by
  obtain ⟨A0, A1, A2, A3, A4, A5, A6, m0, m1, m2, m3, m4, m5, m6, c0, c1, c2, c3, c4, c5, c6, rfl⟩ := slices_of ht
  have hb1 : Below w.heap.size w (w.alloc (.cells #[.slice A0 m0 c0, .slice A1 m1 c1, .slice A2 m2 c2, .slice A3 m3 c3, .slice A4 m4 c4, .slice A5 m5 c5, .slice A6 m6 c6] 31)) := (Below.refl _ _).alloc (Nat.le_refl _) _
  have HB1 := Lib.hid hb1
  have HX := Lib.hid (Blk.new w 31 #[.slice A0 m0 c0, .slice A1 m1 c1, .slice A2 m2 c2, .slice A3 m3 c3, .slice A4 m4 c4, .slice A5 m5 c5, .slice A6 m6 c6])
  have HT1 := Lib.hid (ht.keep hb1)
  have HT0 := Lib.hid ht
  have HF := Lib.hid hf
  have HP := Lib.hid hp
  have HI := Lib.hid (isTrc_i64 ht)
  clear hb1 ht hf hp
  go_enter Tryd.func4, Tryd.ntmps4
  go_upto_region 1 with fail
  generalize w.alloc (.cells #[.slice A0 m0 c0, .slice A1 m1 c1, .slice A2 m2 c2, .slice A3 m3 c3, .slice A4 m4 c4, .slice A5 m5 c5, .slice A6 m6 c6] 31) = W at *
  have p0 := HX.out.cell 0
  have p1 := HX.out.cell 1
  have p2 := HX.out.cell 2
  have p3 := HX.out.cell 3
  have p4 := HX.out.cell 4
  have p5 := HX.out.cell 5
  have p6 := HX.out.cell 6
  simp only [List.getElem?_toArray, List.getElem?_cons_zero, List.getElem?_cons_succ] at p0 p1 p2 p3 p4 p5 p6
  go_wp2_with fail
  refine (large_any t _ W HT1.out HF.out).mono ?_
  rintro e w1 ⟨hl, hb⟩
  obtain ⟨lg, rfl, hsm⟩ := hl
  have HB2 := Lib.hid (HB1.out.trans (hb.mono HB1.out.size))
  have HX2 := Lib.hid (HX.out.keep hb)
  have HT2 := Lib.hid (HT1.out.keep hb)
  clear hb p0 p1 p2 p3 p4 p5 p6
  cases lg with
  | true =>
    go_wp2_with fail
    go_ret
    exact ⟨rfl, HB2.out⟩
  | false =>
    have HS := Lib.hid (hsm rfl)
    clear hsm
    have p0 := HX2.out.cell 0
    have p1 := HX2.out.cell 1
    have p2 := HX2.out.cell 2
    have p3 := HX2.out.cell 3
    have p4 := HX2.out.cell 4
    have p5 := HX2.out.cell 5
    have p6 := HX2.out.cell 6
    simp only [List.getElem?_toArray, List.getElem?_cons_zero, List.getElem?_cons_succ] at p0 p1 p2 p3 p4 p5 p6
    go_wp2_with fail
    refine (printable_any w t _ w1 HT0.out HB2.out HS.out).mono ?_
    rintro e w2 ⟨hb, P0, P1, P2, P3, P4, P5, P6, np0, np1, np2, np3, np4, np5, np6, cp0, cp1, cp2, cp3, cp4, cp5, cp6, rfl, hi⟩
    have HB3 := Lib.hid (HB2.out.trans (hb.mono HB2.out.size))
    have HX3 := Lib.hid (HX2.out.keep hb)
    have HTA := Lib.hid (HT2.out.keep hb)
    have HUA := Lib.hid (hi w2 w.heap.size (Nat.le_refl _) HX2.out.lt (World.grownBy.refl _ _))
    have HPU : Hid (∀ it ∈ (trcP t).items, it.ok ∧ it.prt) := Lib.hid (trcP_prt t HI.out.1 HI.out.2)
    have HLU : Hid ((textT (trcP t)).length ≤ 100000) := Lib.hid (textT_len (trcP t) HPU.out (trcP_small HS.out))
    have HKU : Hid (∀ e ∈ (trcP t).events, (1 ≤ e.kind ∧ e.kind ≤ 23) ∧ e.deps.length + e.frm.length ≤ 1000000000) := Lib.hid (fun e he => by
      have h1 := sumL_mem he
      have h2 := trcP_small HS.out
      unfold Small at h2
      refine ⟨?_, by omega⟩
      obtain ⟨x, _, rfl⟩ := List.mem_map.1 (show e ∈ t.events.map evnP from he)
      exact kindP_in x.kind)
    clear p0 p1 p2 p3 p4 p5 p6 hi hb
    have HU := Lib.hid (Blk.new w2 31 #[.slice P0 np0 cp0, .slice P1 np1 cp1, .slice P2 np2 cp2, .slice P3 np3 cp3, .slice P4 np4 cp4, .slice P5 np5 cp5, .slice P6 np6 cp6])
    have HBZ : Hid (Below w2.heap.size w2 (w2.alloc (.cells #[.slice P0 np0 cp0, .slice P1 np1 cp1, .slice P2 np2 cp2, .slice P3 np3 cp3, .slice P4 np4 cp4, .slice P5 np5 cp5, .slice P6 np6 cp6] 31))) := Lib.hid ((Below.refl _ _).alloc (Nat.le_refl _) _)
    go_upto_region 4 with fail
    generalize w2.alloc (.cells #[.slice P0 np0 cp0, .slice P1 np1 cp1, .slice P2 np2 cp2, .slice P3 np3 cp3, .slice P4 np4 cp4, .slice P5 np5 cp5, .slice P6 np6 cp6] 31) = w3 at *
    have HSS := Lib.hid (HB3.out.trans (HBZ.out.mono HB3.out.size))
    have HP3 := Lib.hid (HP.out.below HSS.out)
    have HTT : Hid (∀ w', Below w3.heap.size w3 w' → IsTrc w' (.agg #[.slice A0 m0 c0, .slice A1 m1 c1, .slice A2 m2 c2, .slice A3 m3 c3, .slice A4 m4 c4, .slice A5 m5 c5, .slice A6 m6 c6]) t) := Lib.hid (fun w' h => (HTA.out.keep HBZ.out).keep h)
    have HTU : Hid (∀ w', Below w3.heap.size w3 w' → IsTrc w' (.agg #[.slice P0 np0 cp0, .slice P1 np1 cp1, .slice P2 np2 cp2, .slice P3 np3 cp3, .slice P4 np4 cp4, .slice P5 np5 cp5, .slice P6 np6 cp6]) (trcP t)) := Lib.hid (fun w' h => (HUA.out.keep HBZ.out).keep h)
    have HXT := Lib.hid (HX3.out.keep HBZ.out)
    clear HTA HUA HX3 HBZ HX2 HT2
    generalize w2.heap.size = gu at *
    generalize hgt : w.heap.size = gt at *
    have HC : Hid (∀ w', Below w3.heap.size w3 w' → w'.cell? ⟨gt, 0, none⟩ = some (.slice A0 m0 c0) ∧ w'.cell? ⟨gt, 1, none⟩ = some (.slice A1 m1 c1) ∧ w'.cell? ⟨gt, 2, none⟩ = some (.slice A2 m2 c2) ∧ w'.cell? ⟨gt, 3, none⟩ = some (.slice A3 m3 c3) ∧ w'.cell? ⟨gt, 4, none⟩ = some (.slice A4 m4 c4) ∧ w'.cell? ⟨gt, 5, none⟩ = some (.slice A5 m5 c5) ∧ w'.cell? ⟨gt, 6, none⟩ = some (.slice A6 m6 c6) ∧ w'.cell? ⟨gu, 0, none⟩ = some (.slice P0 np0 cp0) ∧ w'.cell? ⟨gu, 1, none⟩ = some (.slice P1 np1 cp1) ∧ w'.cell? ⟨gu, 2, none⟩ = some (.slice P2 np2 cp2) ∧ w'.cell? ⟨gu, 3, none⟩ = some (.slice P3 np3 cp3) ∧ w'.cell? ⟨gu, 4, none⟩ = some (.slice P4 np4 cp4) ∧ w'.cell? ⟨gu, 5, none⟩ = some (.slice P5 np5 cp5) ∧ w'.cell? ⟨gu, 6, none⟩ = some (.slice P6 np6 cp6)) := Lib.hid (fun w' h => ⟨(HXT.out.keep h).cell 0, (HXT.out.keep h).cell 1, (HXT.out.keep h).cell 2, (HXT.out.keep h).cell 3, (HXT.out.keep h).cell 4, (HXT.out.keep h).cell 5, (HXT.out.keep h).cell 6, (HU.out.keep h).cell 0, (HU.out.keep h).cell 1, (HU.out.keep h).cell 2, (HU.out.keep h).cell 3, (HU.out.keep h).cell 4, (HU.out.keep h).cell 5, (HU.out.keep h).cell 6⟩)
    have hx0 := (Below.refl w3.heap.size w3).drew
    have hs0 := HC.out _ hx0
    refine wp_region_held_drew (S := fun w' => w'.cell? ⟨gt, 0, none⟩ = some (.slice A0 m0 c0) ∧ w'.cell? ⟨gt, 1, none⟩ = some (.slice A1 m1 c1) ∧ w'.cell? ⟨gt, 2, none⟩ = some (.slice A2 m2 c2) ∧ w'.cell? ⟨gt, 3, none⟩ = some (.slice A3 m3 c3) ∧ w'.cell? ⟨gt, 4, none⟩ = some (.slice A4 m4 c4) ∧ w'.cell? ⟨gt, 5, none⟩ = some (.slice A5 m5 c5) ∧ w'.cell? ⟨gt, 6, none⟩ = some (.slice A6 m6 c6) ∧ w'.cell? ⟨gu, 0, none⟩ = some (.slice P0 np0 cp0) ∧ w'.cell? ⟨gu, 1, none⟩ = some (.slice P1 np1 cp1) ∧ w'.cell? ⟨gu, 2, none⟩ = some (.slice P2 np2 cp2) ∧ w'.cell? ⟨gu, 3, none⟩ = some (.slice P3 np3 cp3) ∧ w'.cell? ⟨gu, 4, none⟩ = some (.slice P4 np4 cp4) ∧ w'.cell? ⟨gu, 5, none⟩ = some (.slice P5 np5 cp5) ∧ w'.cell? ⟨gu, 6, none⟩ = some (.slice P6 np6 cp6)) (by kernel_rfl) (by (try dsimp only); with_reducible assumption) (fun hHeld => ?_)
    refine wpAnyH_take (i := 0) (v := ?v1) (by simp only [List.getElem?_toArray, List.getElem?_cons_zero]; rfl) (by kernel_rfl) (by kernel_rfl) (by kernel_rfl) (by exact fun _ _ _ h => h) (Or.inl ⟨by rfl, ?y1⟩) hHeld ?r1
    case y1 => (intro w hSw; (try dsimp only at hSw); go_simp <;> with_reducible rfl)
    (try simp only [Act.put, List.setIfInBounds_toArray, List.set_cons_zero, List.set_cons_succ])
    refine wpAnyH_take (i := 2) (v := ?v2) (by simp only [List.getElem?_toArray, List.getElem?_cons_succ, List.getElem?_cons_zero]; rfl) (by kernel_rfl) (by kernel_rfl) (by kernel_rfl) (by exact fun _ _ _ h => h) (Or.inl ⟨by rfl, ?y2⟩) hHeld ?r2
    case y2 => (intro w hSw; (try dsimp only at hSw); go_simp <;> with_reducible rfl)
    (try simp only [Act.put, List.setIfInBounds_toArray, List.set_cons_zero, List.set_cons_succ])
    refine wpAnyH_ready (rs := [1]) (by kernel_rfl) (by simp) ?_
    refine AllReadyH.cons (by simp only [List.getElem?_toArray, List.getElem?_cons_succ, List.getElem?_cons_zero]; rfl) (fun K hK => ?_) AllReadyH.nil
    clear hHeld
    go_simp
    go_wp2_with ((go_at_call 12; refine (tformat_any (trcP t) _ _ (HTU.out _ hx0) (HP3.out.below hx0) HKU.out (by have := HLU.out; omega)).mono ?_; rintro e w101 ⟨rfl, hb1⟩; have hx1 := hx0.trans (hb1.mono hx0.size); have hs1 := HC.out w101 hx1))
    refine hK.out _ _ (by (try dsimp only); with_reducible assumption) (fun hHeld => ?_)
    clear hK K
    (try simp only [Act.put, List.setIfInBounds_toArray, List.set_cons_zero, List.set_cons_succ])
    refine wpAnyH_ready (rs := [3]) (by kernel_rfl) (by simp) ?_
    refine AllReadyH.cons (by simp only [List.getElem?_toArray, List.getElem?_cons_succ, List.getElem?_cons_zero]; rfl) (fun K hK => ?_) AllReadyH.nil
    clear hHeld
    go_simp
    go_wp2_with ((go_at_call 13; refine (rformat_any (trcP t) _ _ (HTU.out _ hx1) (HP3.out.below hx1) HKU.out (by have := HLU.out; omega)).mono ?_; rintro e w102 ⟨rfl, hb2⟩; have hx2 := hx1.trans (hb2.mono hx1.size); have hs2 := HC.out w102 hx2))
    refine hK.out _ _ (by (try dsimp only); with_reducible assumption) (fun hHeld => ?_)
    clear hK K
    (try simp only [Act.put, List.setIfInBounds_toArray, List.set_cons_zero, List.set_cons_succ])
    refine wpAnyH_take (i := 4) (v := .bool true) (by simp only [List.getElem?_toArray, List.getElem?_cons_succ, List.getElem?_cons_zero]; rfl) (by kernel_rfl) (by kernel_rfl) (by kernel_rfl) (by exact fun _ _ _ h => h) (Or.inl ⟨by rfl, ?y3⟩) hHeld ?r3
    case y3 => (intro w hSw; (try dsimp only at hSw); go_simp)
    (try simp only [Act.put, List.setIfInBounds_toArray, List.set_cons_zero, List.set_cons_succ])
    refine wpAnyH_take (i := 5) (v := .bool true) (by simp only [List.getElem?_toArray, List.getElem?_cons_succ, List.getElem?_cons_zero]; rfl) (by kernel_rfl) (by kernel_rfl) (by kernel_rfl) (by exact fun _ _ _ h => h) (Or.inl ⟨by rfl, ?y4⟩) hHeld ?r4
    case y4 => (intro w hSw; (try dsimp only at hSw); go_simp)
    (try simp only [Act.put, List.setIfInBounds_toArray, List.set_cons_zero, List.set_cons_succ])
    refine wpAnyH_take (i := 6) (v := ?v5) (by simp only [List.getElem?_toArray, List.getElem?_cons_succ, List.getElem?_cons_zero]; rfl) (by kernel_rfl) (by kernel_rfl) (by kernel_rfl) (by exact fun _ _ _ h => h) (Or.inl ⟨by rfl, ?y5⟩) hHeld ?r5
    case y5 => (intro w hSw; (try dsimp only at hSw); go_simp <;> with_reducible rfl)
    (try simp only [Act.put, List.setIfInBounds_toArray, List.set_cons_zero, List.set_cons_succ])
    refine wpAnyH_ready (rs := [7]) (by kernel_rfl) (by simp) ?_
    refine AllReadyH.cons (by simp only [List.getElem?_toArray, List.getElem?_cons_succ, List.getElem?_cons_zero]; rfl) (fun K hK => ?_) AllReadyH.nil
    clear hHeld
    go_simp
    go_at_call 14
    refine (rprintable_any t _ _ (HTT.out _ hx2) HS.out).mono ?_
    rintro e w103 ⟨⟨pb, rfl, hpb⟩, hb3⟩
    have hx3 := hx2.trans (hb3.mono hx2.size)
    have hs3 := HC.out w103 hx3
    have HPB := Lib.hid hpb
    clear hpb
    refine hK.out _ _ (by (try dsimp only); with_reducible assumption) (fun hHeld => ?_)
    clear hK K
    (try simp only [Act.put, List.setIfInBounds_toArray, List.set_cons_zero, List.set_cons_succ])
    cases pb with
    | false =>
      refine wpAnyH_take (i := 8) (v := .bool true) (by simp only [List.getElem?_toArray, List.getElem?_cons_succ, List.getElem?_cons_zero]; rfl) (by kernel_rfl) (by kernel_rfl) (by kernel_rfl) (by exact fun _ _ _ h => h) (Or.inl ⟨by rfl, ?y6⟩) hHeld ?r6
      case y6 => (intro w hSw; (try dsimp only at hSw); go_simp)
      (try simp only [Act.put, List.setIfInBounds_toArray, List.set_cons_zero, List.set_cons_succ])
      refine wpAnyH_take (i := 9) (v := .bool true) (by simp only [List.getElem?_toArray, List.getElem?_cons_succ, List.getElem?_cons_zero]; rfl) (by kernel_rfl) (by kernel_rfl) (by kernel_rfl) (by exact fun _ _ _ h => h) (Or.inl ⟨by rfl, ?y7⟩) hHeld ?r7
      case y7 => (intro w hSw; (try dsimp only at hSw); go_simp)
      (try simp only [Act.put, List.setIfInBounds_toArray, List.set_cons_zero, List.set_cons_succ])
      refine wpAnyH_take (i := 10) (v := undef) (by simp only [List.getElem?_toArray, List.getElem?_cons_succ, List.getElem?_cons_zero]; rfl) (by kernel_rfl) (by kernel_rfl) (by kernel_rfl) (by exact fun _ _ _ h => h) (Or.inr ⟨by rfl, rfl⟩) hHeld ?r8
      (try simp only [Act.put, List.setIfInBounds_toArray, List.set_cons_zero, List.set_cons_succ])
      refine wpAnyH_take (i := 11) (v := undef) (by simp only [List.getElem?_toArray, List.getElem?_cons_succ, List.getElem?_cons_zero]; rfl) (by kernel_rfl) (by kernel_rfl) (by kernel_rfl) (by exact fun _ _ _ h => h) (Or.inr ⟨by rfl, rfl⟩) hHeld ?r9
      (try simp only [Act.put, List.setIfInBounds_toArray, List.set_cons_zero, List.set_cons_succ])
      refine wpAnyH_take (i := 12) (v := undef) (by simp only [List.getElem?_toArray, List.getElem?_cons_succ, List.getElem?_cons_zero]; rfl) (by kernel_rfl) (by kernel_rfl) (by kernel_rfl) (by exact fun _ _ _ h => h) (Or.inr ⟨by rfl, rfl⟩) hHeld ?r10
      (try simp only [Act.put, List.setIfInBounds_toArray, List.set_cons_zero, List.set_cons_succ])
      refine wpAnyH_take (i := 13) (v := undef) (by simp only [List.getElem?_toArray, List.getElem?_cons_succ, List.getElem?_cons_zero]; rfl) (by kernel_rfl) (by kernel_rfl) (by kernel_rfl) (by exact fun _ _ _ h => h) (Or.inr ⟨by rfl, rfl⟩) hHeld ?r11
      (try simp only [Act.put, List.setIfInBounds_toArray, List.set_cons_zero, List.set_cons_succ])
      refine wpAnyH_take (i := 14) (v := undef) (by simp only [List.getElem?_toArray, List.getElem?_cons_succ, List.getElem?_cons_zero]; rfl) (by kernel_rfl) (by kernel_rfl) (by kernel_rfl) (by exact fun _ _ _ h => h) (Or.inr ⟨by rfl, rfl⟩) hHeld ?r12
      (try simp only [Act.put, List.setIfInBounds_toArray, List.set_cons_zero, List.set_cons_succ])
      refine wpAnyH_take (i := 15) (v := .bool true) (by simp only [List.getElem?_toArray, List.getElem?_cons_succ, List.getElem?_cons_zero]; rfl) (by kernel_rfl) (by kernel_rfl) (by kernel_rfl) (by exact fun _ _ _ h => h) (Or.inl ⟨by rfl, ?y13⟩) hHeld ?r13
      case y13 => (intro w hSw; (try dsimp only at hSw); go_simp)
      (try simp only [Act.put, List.setIfInBounds_toArray, List.set_cons_zero, List.set_cons_succ])
      refine wpAnyH_take (i := 16) (v := .bool true) (by simp only [List.getElem?_toArray, List.getElem?_cons_succ, List.getElem?_cons_zero]; rfl) (by kernel_rfl) (by kernel_rfl) (by kernel_rfl) (by exact fun _ _ _ h => h) (Or.inl ⟨by rfl, ?y14⟩) hHeld ?r14
      case y14 => (intro w hSw; (try dsimp only at hSw); go_simp)
      (try simp only [Act.put, List.setIfInBounds_toArray, List.set_cons_zero, List.set_cons_succ])
      refine wpAnyH_take (i := 17) (v := .bool true) (by simp only [List.getElem?_toArray, List.getElem?_cons_succ, List.getElem?_cons_zero]; rfl) (by kernel_rfl) (by kernel_rfl) (by kernel_rfl) (by exact fun _ _ _ h => h) (Or.inl ⟨by rfl, ?y15⟩) hHeld ?r15
      case y15 => (intro w hSw; (try dsimp only at hSw); go_simp)
      (try simp only [Act.put, List.setIfInBounds_toArray, List.set_cons_zero, List.set_cons_succ])
      refine wpAnyH_ready (rs := [18]) (by kernel_rfl) (by simp) ?_
      refine AllReadyH.cons (by simp only [List.getElem?_toArray, List.getElem?_cons_succ, List.getElem?_cons_zero]; rfl) (fun K hK => ?_) AllReadyH.nil
      clear hHeld
      go_simp
      go_wp2_with ((go_at_call 9; refine (awake16 _ (HP3.out.below hx3)).mono ?_; rintro e w104 ⟨rfl, hb4⟩; have hx4 := hx3.trans (hb4.mono hx3.size); have hs4 := HC.out w104 hx4))
      refine hK.out _ _ (by (try dsimp only); with_reducible assumption) (fun hHeld => ?_)
      clear hK K
      (try simp only [Act.put, List.setIfInBounds_toArray, List.set_cons_zero, List.set_cons_succ])
      refine wpAnyH_take (i := 19) (v := .bool true) (by simp only [List.getElem?_toArray, List.getElem?_cons_succ, List.getElem?_cons_zero]; rfl) (by kernel_rfl) (by kernel_rfl) (by kernel_rfl) (by exact fun _ _ _ h => h) (Or.inl ⟨by rfl, ?y16⟩) hHeld ?r16
      case y16 => (intro w hSw; (try dsimp only at hSw); go_simp)
      (try simp only [Act.put, List.setIfInBounds_toArray, List.set_cons_zero, List.set_cons_succ])
      refine wpAnyH_ready (rs := [20]) (by kernel_rfl) (by simp) ?_
      refine AllReadyH.cons (by simp only [List.getElem?_toArray, List.getElem?_cons_succ, List.getElem?_cons_zero]; rfl) (fun K hK => ?_) AllReadyH.nil
      clear hHeld
      go_simp
      refine hK.out _ _ (by (try dsimp only); with_reducible assumption) (fun hHeld => ?_)
      clear hK K
      (try simp only [Act.put, List.setIfInBounds_toArray, List.set_cons_zero, List.set_cons_succ])
      clear hHeld
      refine wpAnyH_done (by kernel_rfl) ?_ _
      go_wp2_with fail
      go_ret
      exact ⟨rfl, hgt ▸ (HSS.out.trans (hx4.mono (by have := HSS.out.size; omega)))⟩
    | true =>
      have HPR : Hid (∀ it ∈ t.items, it.ok ∧ it.prt) := Lib.hid (t_prt t HI.out.1 HI.out.2 (HPB.out rfl).1 (HPB.out rfl).2)
      have HLT : Hid ((textT t).length ≤ 100000) := Lib.hid (textT_len t HPR.out HS.out)
      have HKT : Hid (∀ e ∈ t.events, (1 ≤ e.kind ∧ e.kind ≤ 23) ∧ e.deps.length + e.frm.length ≤ 1000000000) := Lib.hid (fun e he => by
        have h1 := sumL_mem he
        have h2 := HS.out
        unfold Small at h2
        exact ⟨(HPB.out rfl).2 e he, by omega⟩)
      refine wpAnyH_take (i := 8) (v := .bool false) (by simp only [List.getElem?_toArray, List.getElem?_cons_succ, List.getElem?_cons_zero]; rfl) (by kernel_rfl) (by kernel_rfl) (by kernel_rfl) (by exact fun _ _ _ h => h) (Or.inl ⟨by rfl, ?y17⟩) hHeld ?r17
      case y17 => (intro w hSw; (try dsimp only at hSw); go_simp)
      (try simp only [Act.put, List.setIfInBounds_toArray, List.set_cons_zero, List.set_cons_succ])
      refine wpAnyH_take (i := 9) (v := .bool false) (by simp only [List.getElem?_toArray, List.getElem?_cons_succ, List.getElem?_cons_zero]; rfl) (by kernel_rfl) (by kernel_rfl) (by kernel_rfl) (by exact fun _ _ _ h => h) (Or.inl ⟨by rfl, ?y18⟩) hHeld ?r18
      case y18 => (intro w hSw; (try dsimp only at hSw); go_simp)
      (try simp only [Act.put, List.setIfInBounds_toArray, List.set_cons_zero, List.set_cons_succ])
      refine wpAnyH_take (i := 10) (v := ?v19) (by simp only [List.getElem?_toArray, List.getElem?_cons_succ, List.getElem?_cons_zero]; rfl) (by kernel_rfl) (by kernel_rfl) (by kernel_rfl) (by exact fun _ _ _ h => h) (Or.inl ⟨by rfl, ?y19⟩) hHeld ?r19
      case y19 => (intro w hSw; (try dsimp only at hSw); go_simp <;> with_reducible rfl)
      (try simp only [Act.put, List.setIfInBounds_toArray, List.set_cons_zero, List.set_cons_succ])
      refine wpAnyH_take (i := 12) (v := ?v20) (by simp only [List.getElem?_toArray, List.getElem?_cons_succ, List.getElem?_cons_zero]; rfl) (by kernel_rfl) (by kernel_rfl) (by kernel_rfl) (by exact fun _ _ _ h => h) (Or.inl ⟨by rfl, ?y20⟩) hHeld ?r20
      case y20 => (intro w hSw; (try dsimp only at hSw); go_simp <;> with_reducible rfl)
      (try simp only [Act.put, List.setIfInBounds_toArray, List.set_cons_zero, List.set_cons_succ])
      refine wpAnyH_ready (rs := [11]) (by kernel_rfl) (by simp) ?_
      refine AllReadyH.cons (by simp only [List.getElem?_toArray, List.getElem?_cons_succ, List.getElem?_cons_zero]; rfl) (fun K hK => ?_) AllReadyH.nil
      clear hHeld
      go_simp
      go_wp2_with ((go_at_call 12; refine (tformat_any t _ _ (HTT.out _ hx3) (HP3.out.below hx3) HKT.out (by have := HLT.out; omega)).mono ?_; rintro e w105 ⟨rfl, hb5⟩; have hx5 := hx3.trans (hb5.mono hx3.size); have hs5 := HC.out w105 hx5))
      refine hK.out _ _ (by (try dsimp only); with_reducible assumption) (fun hHeld => ?_)
      clear hK K
      (try simp only [Act.put, List.setIfInBounds_toArray, List.set_cons_zero, List.set_cons_succ])
      refine wpAnyH_ready (rs := [13]) (by kernel_rfl) (by simp) ?_
      refine AllReadyH.cons (by simp only [List.getElem?_toArray, List.getElem?_cons_succ, List.getElem?_cons_zero]; rfl) (fun K hK => ?_) AllReadyH.nil
      clear hHeld
      go_simp
      go_wp2_with ((go_at_call 13; refine (rformat_any t _ _ (HTT.out _ hx5) (HP3.out.below hx5) HKT.out (by have := HLT.out; omega)).mono ?_; rintro e w106 ⟨rfl, hb6⟩; have hx6 := hx5.trans (hb6.mono hx5.size); have hs6 := HC.out w106 hx6))
      refine hK.out _ _ (by (try dsimp only); with_reducible assumption) (fun hHeld => ?_)
      clear hK K
      (try simp only [Act.put, List.setIfInBounds_toArray, List.set_cons_zero, List.set_cons_succ])
      refine wpAnyH_take (i := 14) (v := .bool true) (by simp only [List.getElem?_toArray, List.getElem?_cons_succ, List.getElem?_cons_zero]; rfl) (by kernel_rfl) (by kernel_rfl) (by kernel_rfl) (by exact fun _ _ _ h => h) (Or.inl ⟨by rfl, ?y21⟩) hHeld ?r21
      case y21 => (intro w hSw; (try dsimp only at hSw); go_simp)
      (try simp only [Act.put, List.setIfInBounds_toArray, List.set_cons_zero, List.set_cons_succ])
      refine wpAnyH_take (i := 15) (v := .bool true) (by simp only [List.getElem?_toArray, List.getElem?_cons_succ, List.getElem?_cons_zero]; rfl) (by kernel_rfl) (by kernel_rfl) (by kernel_rfl) (by exact fun _ _ _ h => h) (Or.inl ⟨by rfl, ?y22⟩) hHeld ?r22
      case y22 => (intro w hSw; (try dsimp only at hSw); go_simp)
      (try simp only [Act.put, List.setIfInBounds_toArray, List.set_cons_zero, List.set_cons_succ])
      refine wpAnyH_take (i := 16) (v := .bool true) (by simp only [List.getElem?_toArray, List.getElem?_cons_succ, List.getElem?_cons_zero]; rfl) (by kernel_rfl) (by kernel_rfl) (by kernel_rfl) (by exact fun _ _ _ h => h) (Or.inl ⟨by rfl, ?y23⟩) hHeld ?r23
      case y23 => (intro w hSw; (try dsimp only at hSw); go_simp)
      (try simp only [Act.put, List.setIfInBounds_toArray, List.set_cons_zero, List.set_cons_succ])
      refine wpAnyH_take (i := 17) (v := .bool true) (by simp only [List.getElem?_toArray, List.getElem?_cons_succ, List.getElem?_cons_zero]; rfl) (by kernel_rfl) (by kernel_rfl) (by kernel_rfl) (by exact fun _ _ _ h => h) (Or.inl ⟨by rfl, ?y24⟩) hHeld ?r24
      case y24 => (intro w hSw; (try dsimp only at hSw); go_simp)
      (try simp only [Act.put, List.setIfInBounds_toArray, List.set_cons_zero, List.set_cons_succ])
      refine wpAnyH_ready (rs := [18]) (by kernel_rfl) (by simp) ?_
      refine AllReadyH.cons (by simp only [List.getElem?_toArray, List.getElem?_cons_succ, List.getElem?_cons_zero]; rfl) (fun K hK => ?_) AllReadyH.nil
      clear hHeld
      go_simp
      go_wp2_with ((go_at_call 9; refine (awake16 _ (HP3.out.below hx6)).mono ?_; rintro e w107 ⟨rfl, hb7⟩; have hx7 := hx6.trans (hb7.mono hx6.size); have hs7 := HC.out w107 hx7))
      refine hK.out _ _ (by (try dsimp only); with_reducible assumption) (fun hHeld => ?_)
      clear hK K
      (try simp only [Act.put, List.setIfInBounds_toArray, List.set_cons_zero, List.set_cons_succ])
      refine wpAnyH_take (i := 19) (v := .bool true) (by simp only [List.getElem?_toArray, List.getElem?_cons_succ, List.getElem?_cons_zero]; rfl) (by kernel_rfl) (by kernel_rfl) (by kernel_rfl) (by exact fun _ _ _ h => h) (Or.inl ⟨by rfl, ?y25⟩) hHeld ?r25
      case y25 => (intro w hSw; (try dsimp only at hSw); go_simp)
      (try simp only [Act.put, List.setIfInBounds_toArray, List.set_cons_zero, List.set_cons_succ])
      refine wpAnyH_ready (rs := [20]) (by kernel_rfl) (by simp) ?_
      refine AllReadyH.cons (by simp only [List.getElem?_toArray, List.getElem?_cons_succ, List.getElem?_cons_zero]; rfl) (fun K hK => ?_) AllReadyH.nil
      clear hHeld
      go_simp
      refine hK.out _ _ (by (try dsimp only); with_reducible assumption) (fun hHeld => ?_)
      clear hK K
      (try simp only [Act.put, List.setIfInBounds_toArray, List.set_cons_zero, List.set_cons_succ])
      clear hHeld
      refine wpAnyH_done (by kernel_rfl) ?_ _
      go_wp2_with fail
      go_ret
      exact ⟨rfl, hgt ▸ (HSS.out.trans (hx7.mono (by have := HSS.out.size; omega)))⟩
end Go.Proofs.YtmnjmegejaejlaaDoor
