/-
  WALK: interleaveref16.add at a line of 'event'.
-/
import Derived.Test.YtmnjmegejaejlaaDoorTR36
namespace Go.Proofs.YtmnjmegejaejlaaDoor
open Go.RowKit

theorem info_radd_event : (Tryd.prog.info? 53).map (fun i => (i.zero, i.size, i.bytes)) = some (some (.agg #[.int .i64 0, .int .i64 0, .int .i64 0, .int .i64 0, .int .i64 0, .slice none 0 0, .slice none 0 0]), 7, 88) := by kernel_rfl
set_option maxRecDepth 100000 in
set_option maxHeartbeats 16000000 in
theorem radd_event (N base b ab off n c : Nat) (ps : List (List UInt8)) (v : Nat → Value) (t : Trc) (ds : List (Value × Value)) (w : World) (hT : TrS w base b v t ds) (hp : PT w) (_hG : GT b) (hN : base ≤ N) (hNv : ∀ i, i < 7 → ∀ g, (v i).ownBlock = some g → base ≤ g ∧ g < N) (hab : N ≤ ab) (habs : ab < w.heap.size)
    (hn : n = ps.length + 1) (hc : n ≤ c) (hm : c ≤ maxLen) (hcell : ∀ j s, (wEvent :: ps)[j]? = some s → w.cell? ⟨ab, off + j, none⟩ = some (.string ⟨s.toArray⟩)) (hl : ∀ p ∈ wEvent :: ps, p.length ≤ 1000000000) (hrn : ∀ i, rowN t i ≤ 1000000000) (hpn : ps.length ≤ 900000000) :
    Calls Tryd.prog 18 #[.pointer (some ⟨b, 0, none⟩), .slice (some ⟨ab, off, none⟩) n c] w (RAddRet w base b t (itemI wEvent ps)) := by
  obtain ⟨iC, hiC, hzC0, hzC1, hzC2⟩ := info_parts info_radd_event
  have HBB : Hid (b < base ∧ base ≤ N ∧ N ≤ ab ∧ ab < w.heap.size ∧ base ≤ w.heap.size ∧ N ≤ w.heap.size) := Lib.hid ⟨hT.lt, hN, hab, habs, hT.le, by omega⟩
  have HNV := Lib.hid hNv
  have HCELL : Hid (∀ W, Below w.heap.size w W → ∀ j s, (wEvent :: ps)[j]? = some s → W.cell? ⟨ab, off + j, none⟩ = some (.string ⟨s.toArray⟩)) := Lib.hid (fun W hW j s hj => (hW.cell (p := ⟨ab, off + j, none⟩) habs).trans (hcell j s hj))
  have HTK : Hid (∀ W, Below w.heap.size w W → TrS W base b v t ds) := Lib.hid (fun W hW => hT.keep hW)
  have HP := Lib.hid hp
  have HL := Lib.hid hl
  have HRN := Lib.hid hrn
  have HPN := Lib.hid hpn
  have HTX : Hid (Txts w (.slice (some ⟨ab, off, none⟩) n c) (wEvent :: ps)) := Lib.hid ⟨_, c, by rw [hn]; rfl, by simp; omega, hm, fun _ => ⟨ab, off, rfl, habs, fun j u hj => by
    rw [List.getElem?_map] at hj
    cases e : (wEvent :: ps)[j]? with
    | none => rw [e] at hj; cases hj
    | some s => rw [e] at hj; injection hj with hj; rw [← hj]; exact hcell j s e⟩⟩
  have h0 := hcell 0 wEvent rfl
  rw [Nat.add_zero] at h0
  unfold wEvent at h0
  have i0 : (0 : Int) < (n : Int) := by omega
  have i0n : 0 < n := by omega
  have HN := Lib.hid hn
  clear hT hp hN hNv hab habs hl hrn hpn hm
  have hcs : ps = [] ∨ ∃ nm qs, ps = nm :: qs := by
    cases ps with
    | nil => exact .inl rfl
    | cons nm qs => exact .inr ⟨nm, qs, rfl⟩
  rcases hcs with hps | ⟨nm, qs, hps⟩
  · skip
    rw [hps] at hn hcell
    obtain rfl : n = 1 := hn
    clear hps
    have HB0 : Hid (Below w.heap.size w w) := Lib.hid (Below.refl _ _)
    clear hcell hc
    go_enter Tryd.func18, Tryd.ntmps18
    have hwl : (wEvent :: ps).length = 1 := (show ps.length + 1 = 1 from HN.out.symm)
    have HEV := Lib.hid (revent_any (some ⟨ab, off, none⟩) c (wEvent :: ps) w (by rw [hwl]; exact HTX.out.keep HB0.out) (HP.out.below HB0.out) HL.out (by have := HPN.out; simp; omega))
    rw [hwl] at HEV
    clear hwl
    go_wp2_with fail
    refine HEV.out.mono ?_
    rintro e w4 ⟨hb4, ev, dv, fv, okb, rfl, hok, hdv, hfv, hy, hno⟩
    rw [List.tail_cons] at hy hno
    obtain ⟨Ad, cd, rfl, -⟩ := id hdv
    obtain ⟨Af, cf, rfl, -⟩ := id hfv
    have HB4 := Lib.hid (HB0.out.trans (hb4.mono HB0.out.size))
    have HSW : Hid (N ≤ w.heap.size) := Lib.hid (by have := HBB.out; have := HB0.out.size; omega)
    have HOK := Lib.hid hok
    have HDV := Lib.hid hdv
    have HFV := Lib.hid hfv
    have HY := Lib.hid hy
    have HNO := Lib.hid hno
    have HSZ4 : Hid (w.heap.size ≤ w4.heap.size) := Lib.hid hb4.size
    clear hb4 hok hdv hfv hy hno HEV h0
    unfold Evn.val
    have hb5 : Below w4.heap.size w4 (w4.alloc (.cells #[.int .i64 ev.thread, .int .i64 ev.kind, .int .i64 ev.obj, .int .i64 ev.value, .int .i64 ev.site, .slice Ad ev.deps.length cd, .slice Af ev.frm.length cf] 53)) := (Below.refl _ _).alloc (Nat.le_refl _) _
    have HX5 := Lib.hid (Blk.new w4 53 #[.int .i64 ev.thread, .int .i64 ev.kind, .int .i64 ev.obj, .int .i64 ev.value, .int .i64 ev.site, .slice Ad ev.deps.length cd, .slice Af ev.frm.length cf])
    have HB5x : Hid (Below w.heap.size w (w4.alloc (.cells #[.int .i64 ev.thread, .int .i64 ev.kind, .int .i64 ev.obj, .int .i64 ev.value, .int .i64 ev.site, .slice Ad ev.deps.length cd, .slice Af ev.frm.length cf] 53))) := Lib.hid (HB4.out.trans (hb5.mono HB4.out.size))
    have HXS : Hid (w.heap.size ≤ w4.heap.size) := Lib.hid (by have := HB4.out.size; exact HSZ4.out)
    have HDV5 := Lib.hid (HDV.out.keep hb5)
    have HFV5 := Lib.hid (HFV.out.keep hb5)
    clear hb5
    go_upto_region 11 with fail
    generalize hw5 : w4.alloc (.cells #[.int .i64 ev.thread, .int .i64 ev.kind, .int .i64 ev.obj, .int .i64 ev.value, .int .i64 ev.site, .slice Ad ev.deps.length cd, .slice Af ev.frm.length cf] 53) = w5 at *
    generalize hxb : w4.heap.size = xb at *
    clear hw5 hxb HDV HFV
    cases okb with
    | false =>
      have HNO2 : Hid (itemI wEvent ps = none) := Lib.hid (by rw [itemI_event]; cases e : eventI ps with | none => rfl | some x => exact absurd (HY.out x e).1 (by simp))
      go_wp2_with fail
      go_ret
      exact radd_no HB5x.out (by have := HBB.out; omega) HNO2.out
    | true =>
      have HITM : Hid (itemI wEvent ps = some (.event ev)) := Lib.hid (by rw [itemI_event]; cases e : eventI ps with | none => exact absurd (HNO.out e) (by simp) | some x => rw [(HY.out x e).2]; rfl)
      have HDV2 : Hid (IntsO w5 (EvP base v) (.slice Ad ev.deps.length cd) ev.deps) := Lib.hid (HDV5.out.mono (fun g _ hg => ⟨by have := HBB.out; have := HSW.out; omega, fun i hi e => by have := (HNV.out i hi g e).2; have := HSW.out; omega⟩))
      have HFV2 : Hid (IntsO w5 (EvP base v) (.slice Af ev.frm.length cf) ev.frm) := Lib.hid (HFV5.out.mono (fun g _ hg => ⟨by have := HBB.out; have := HSW.out; omega, fun i hi e => by have := (HNV.out i hi g e).2; have := HSW.out; omega⟩))
      have HT5 := Lib.hid (HTK.out w5 HB5x.out)
      have HNW := Lib.hid (cells_at w5 53 [.int .i64 ev.thread, .int .i64 ev.kind, .int .i64 ev.obj, .int .i64 ev.value, .int .i64 ev.site, .slice Ad ev.deps.length cd, .slice Af ev.frm.length cf] rfl)
      have HON : Hid (∀ u ∈ ([.int .i64 ev.thread, .int .i64 ev.kind, .int .i64 ev.obj, .int .i64 ev.value, .int .i64 ev.site, .slice Ad ev.deps.length cd, .slice Af ev.frm.length cf] : List Value), u.oneCell' = true) := Lib.hid (by intro u hu; simp at hu; rcases hu with rfl | rfl | rfl | rfl | rfl | rfl | rfl <;> rfl)
      have HM1 : Hid (rowN t 6 + 1 ≤ maxLen) := (by refine Lib.hid ?_; have := HRN.out 6; unfold maxLen; omega)
      have HM2 : Hid ((rowN t 6 + 1) * 88 ≤ 140737488355328) := (by refine Lib.hid ?_; have := HRN.out 6; omega)
      have HM3 : Hid (base ≤ (w5.alloc (.cells #[.int .i64 ev.thread, .int .i64 ev.kind, .int .i64 ev.obj, .int .i64 ev.value, .int .i64 ev.site, .slice Ad ev.deps.length cd, .slice Af ev.frm.length cf] 53)).heap.size) := (by refine Lib.hid ?_; have := HT5.out.le; simp; omega)
      have HOW := Lib.hid ((HT5.out.row 6 (by omega)).alloc (.cells #[.int .i64 ev.thread, .int .i64 ev.kind, .int .i64 ev.obj, .int .i64 ev.value, .int .i64 ev.site, .slice Ad ev.deps.length cd, .slice Af ev.frm.length cf] 53))
      have r0 := HT5.out.blk.cell 6
      have ra := (HT5.out.blk.alloc (.cells #[.int .i64 ev.thread, .int .i64 ev.kind, .int .i64 ev.obj, .int .i64 ev.value, .int .i64 ev.site, .slice Ad ev.deps.length cd, .slice Af ev.frm.length cf] 53)).cell 6
      simp only [List.getElem?_toArray, List.getElem?_cons_zero, List.getElem?_cons_succ] at r0 ra
      have HSX : Hid (∀ w', HiKeep N w5 w' → w'.cell? ⟨xb, 0, none⟩ = some (.int .i64 ev.thread) ∧ w'.cell? ⟨xb, 1, none⟩ = some (.int .i64 ev.kind) ∧ w'.cell? ⟨xb, 2, none⟩ = some (.int .i64 ev.obj) ∧ w'.cell? ⟨xb, 3, none⟩ = some (.int .i64 ev.value) ∧ w'.cell? ⟨xb, 4, none⟩ = some (.int .i64 ev.site) ∧ w'.cell? ⟨xb, 5, none⟩ = some (.slice Ad ev.deps.length cd) ∧ w'.cell? ⟨xb, 6, none⟩ = some (.slice Af ev.frm.length cf)) := Lib.hid (fun w' h => ⟨h ⟨xb, 0, none⟩ _ (Nat.le_trans HSW.out HXS.out) (HX5.out.cell 0), h ⟨xb, 1, none⟩ _ (Nat.le_trans HSW.out HXS.out) (HX5.out.cell 1), h ⟨xb, 2, none⟩ _ (Nat.le_trans HSW.out HXS.out) (HX5.out.cell 2), h ⟨xb, 3, none⟩ _ (Nat.le_trans HSW.out HXS.out) (HX5.out.cell 3), h ⟨xb, 4, none⟩ _ (Nat.le_trans HSW.out HXS.out) (HX5.out.cell 4), h ⟨xb, 5, none⟩ _ (Nat.le_trans HSW.out HXS.out) (HX5.out.cell 5), h ⟨xb, 6, none⟩ _ (Nat.le_trans HSW.out HXS.out) (HX5.out.cell 6)⟩)
      have s1 := HSX.out _ (HiKeep.below (Below.refl w5.heap.size w5).drew)
      have s2 := HSX.out _ (HiKeep.below ((Below.refl w5.heap.size w5).alloc (Nat.le_refl _) (.cells #[.int .i64 ev.thread, .int .i64 ev.kind, .int .i64 ev.obj, .int .i64 ev.value, .int .i64 ev.site, .slice Ad ev.deps.length cd, .slice Af ev.frm.length cf] 53)).drew)
      have s3 := HSX.out _ (HiKeep.below ((Below.refl w5.heap.size w5).drew.alloc (Nat.le_refl _) (.cells #[.int .i64 ev.thread, .int .i64 ev.kind, .int .i64 ev.obj, .int .i64 ev.value, .int .i64 ev.site, .slice Ad ev.deps.length cd, .slice Af ev.frm.length cf] 53)))
      have HB5 : Hid (Below w.heap.size w w5) := HB5x
      go_upto_region 12 with fail
      refine wp_region_held_drew (S := fun w' => w'.cell? ⟨xb, 0, none⟩ = some (.int .i64 ev.thread) ∧ w'.cell? ⟨xb, 1, none⟩ = some (.int .i64 ev.kind) ∧ w'.cell? ⟨xb, 2, none⟩ = some (.int .i64 ev.obj) ∧ w'.cell? ⟨xb, 3, none⟩ = some (.int .i64 ev.value) ∧ w'.cell? ⟨xb, 4, none⟩ = some (.int .i64 ev.site) ∧ w'.cell? ⟨xb, 5, none⟩ = some (.slice Ad ev.deps.length cd) ∧ w'.cell? ⟨xb, 6, none⟩ = some (.slice Af ev.frm.length cf)) (by kernel_rfl) (by (try dsimp only); first | with_reducible exact s1 | with_reducible exact s2 | with_reducible exact s3 | with_reducible exact s8 | with_reducible exact s7) (fun hHeld => ?_)
      refine wpAnyH_take (i := 0) (v := ?v138) (by simp only [List.getElem?_toArray, List.getElem?_cons_zero]; rfl) (by kernel_rfl) (by kernel_rfl) (by kernel_rfl) (by exact fun _ _ _ h => h) (Or.inl ⟨by rfl, ?y138⟩) hHeld ?r138
      case y138 => (intro w hSw; (try dsimp only at hSw); go_simp <;> with_reducible rfl)
      (try simp only [Act.put, List.setIfInBounds_toArray, List.set_cons_zero, List.set_cons_succ])
      refine wpAnyH_take (i := 1) (v := ?v139) (by simp only [List.getElem?_toArray, List.getElem?_cons_succ, List.getElem?_cons_zero]; rfl) (by kernel_rfl) (by kernel_rfl) (by kernel_rfl) (by exact fun _ _ _ h => h) (Or.inl ⟨by rfl, ?y139⟩) hHeld ?r139
      case y139 => (intro w hSw; (try dsimp only at hSw); go_simp <;> with_reducible rfl)
      (try simp only [Act.put, List.setIfInBounds_toArray, List.set_cons_zero, List.set_cons_succ])
      refine wpAnyH_take (i := 2) (v := ?v140) (by simp only [List.getElem?_toArray, List.getElem?_cons_succ, List.getElem?_cons_zero]; rfl) (by kernel_rfl) (by kernel_rfl) (by kernel_rfl) (by exact fun _ _ _ h => h) (Or.inl ⟨by rfl, ?y140⟩) hHeld ?r140
      case y140 => (intro w hSw; (try dsimp only at hSw); go_simp <;> with_reducible rfl)
      (try simp only [Act.put, List.setIfInBounds_toArray, List.set_cons_zero, List.set_cons_succ])
      refine wpAnyH_take (i := 3) (v := ?v141) (by simp only [List.getElem?_toArray, List.getElem?_cons_succ, List.getElem?_cons_zero]; rfl) (by kernel_rfl) (by kernel_rfl) (by kernel_rfl) (by exact fun _ _ _ h => h) (Or.inl ⟨by rfl, ?y141⟩) hHeld ?r141
      case y141 => (intro w hSw; (try dsimp only at hSw); go_simp <;> with_reducible rfl)
      (try simp only [Act.put, List.setIfInBounds_toArray, List.set_cons_zero, List.set_cons_succ])
      refine wpAnyH_take (i := 5) (v := ?v142) (by simp only [List.getElem?_toArray, List.getElem?_cons_succ, List.getElem?_cons_zero]; rfl) (by kernel_rfl) (by kernel_rfl) (by kernel_rfl) (by exact fun _ _ _ h => h) (Or.inl ⟨by rfl, ?y142⟩) hHeld ?r142
      case y142 => (intro w hSw; (try dsimp only at hSw); go_simp <;> with_reducible rfl)
      (try simp only [Act.put, List.setIfInBounds_toArray, List.set_cons_zero, List.set_cons_succ])
      refine wpAnyH_ready (rs := [4, 6]) (by kernel_rfl) (by simp) ?_
      refine AllReadyH.cons (by simp only [List.getElem?_toArray, List.getElem?_cons_succ, List.getElem?_cons_zero]; rfl) (fun K hK => ?_) (AllReadyH.cons (by simp only [List.getElem?_toArray, List.getElem?_cons_succ, List.getElem?_cons_zero]; rfl) (fun K hK => ?_) AllReadyH.nil)
      · clear hHeld
        go_simp
        refine hK.out _ _ (by (try dsimp only); first | with_reducible exact s1 | with_reducible exact s2 | with_reducible exact s3 | with_reducible exact s8 | with_reducible exact s7) (fun hHeld => ?_)
        clear hK K
        (try simp only [Act.put, List.setIfInBounds_toArray, List.set_cons_zero, List.set_cons_succ])
        refine wpAnyH_ready (rs := [6]) (by kernel_rfl) (by simp) ?_
        refine AllReadyH.cons (by simp only [List.getElem?_toArray, List.getElem?_cons_succ, List.getElem?_cons_zero]; rfl) (fun K hK => ?_) AllReadyH.nil
        clear hHeld
        go_simp
        refine hK.out _ _ (by (try dsimp only); first | with_reducible exact s1 | with_reducible exact s2 | with_reducible exact s3 | with_reducible exact s8 | with_reducible exact s7) (fun hHeld => ?_)
        clear hK K
        (try simp only [Act.put, List.setIfInBounds_toArray, List.set_cons_zero, List.set_cons_succ])
        refine wpAnyH_ready (rs := [7]) (by kernel_rfl) (by simp) ?_
        refine AllReadyH.cons (by simp only [List.getElem?_toArray, List.getElem?_cons_succ, List.getElem?_cons_zero]; rfl) (fun K hK => ?_) AllReadyH.nil
        clear hHeld
        (refine step_app_own rfl (.tmp 55) (.tmp 57) 29 rfl base 53 iC _ 7 88 Tryd.underlying29 hiC hzC0 hzC1 hzC2 rfl (by decide) (v 6) (rowN t 6) (rowX t ds 6) (by first | rfl | simp [Act.eval]) HOW.out.drew ⟨w5.heap.size, 0, none⟩ 1 1 [.int .i64 ev.thread, .int .i64 ev.kind, .int .i64 ev.obj, .int .i64 ev.value, .int .i64 ev.site, .slice Ad ev.deps.length cd, .slice Af ev.frm.length cf] (by first | rfl | simp [Act.eval]) rfl HNW.out HON.out HM1.out HM2.out HM3.out ?_; intro v7 w7 hown hg hat; have hg1 : (w5.alloc (.cells #[.int .i64 ev.thread, .int .i64 ev.kind, .int .i64 ev.obj, .int .i64 ev.value, .int .i64 ev.site, .slice Ad ev.deps.length cd, .slice Af ev.frm.length cf] 53)).grownBy w7 (v 6).ownBlock := ⟨hg.os, hg.tape, hg.output, hg.size, hg.block⟩; obtain ⟨A7, c7, e7, -, -, -⟩ := owns_rd hown; subst e7; have HT8 := Lib.hid (HT5.out.push (i := 6) (it := (.event ev)) (d := (.slice Ad ev.deps.length cd, .slice Af ev.frm.length cf)) rfl hown hg1 hat (by intro e he; injection he with he; subst he; exact ⟨HDV2.out, HFV2.out⟩) HOK.out); have hb7 := (HT5.out.blk.alloc (.cells #[.int .i64 ev.thread, .int .i64 ev.kind, .int .i64 ev.obj, .int .i64 ev.value, .int .i64 ev.site, .slice Ad ev.deps.length cd, .slice Af ev.frm.length cf] 53)).grown hg1 (by intro e; have := HNV.out 6 (by omega) b e.symm; have := HBB.out; omega); have k7 := hb7.cell 6; have z7 := hb7.frozen 6; simp only [List.getElem?_toArray, List.getElem?_cons_zero, List.getElem?_cons_succ] at k7; have HB7 : Hid (Below b w w7) := Lib.hid (((HB5.out.mono (by have := HBB.out; omega)).alloc (by have := HBB.out; have := HB5.out.size; omega) _).grown hg1 (by have := HBB.out; have := HB5.out.size; simp; omega) (fun g e => by have := HNV.out 6 (by omega) g e; have := HBB.out; omega)); have hk7 : HiKeep N w5 w7 := (HiKeep.below ((Below.refl w5.heap.size w5).alloc (Nat.le_refl _) (.cells #[.int .i64 ev.thread, .int .i64 ev.kind, .int .i64 ev.obj, .int .i64 ev.value, .int .i64 ev.site, .slice Ad ev.deps.length cd, .slice Af ev.frm.length cf] 53))).trans (HiKeep.grown hg1 (fun g e => (HNV.out 6 (by omega) g e).2)); have s7 := HSX.out w7 hk7; have s8 := HSX.out _ (hk7.trans (HiKeep.grown (grownBy_set0 w7 b 6 (.slice A7 (rowN t 6 + 1) c7)) (fun g e => by injection e with e; have := HBB.out; omega))); clear hown hg hat hb7 hg1)
        refine hK.out _ _ (by (try dsimp only); first | with_reducible exact s1 | with_reducible exact s2 | with_reducible exact s3 | with_reducible exact s8 | with_reducible exact s7) (fun hHeld => ?_)
        clear hK K
        (try simp only [Act.put, List.setIfInBounds_toArray, List.set_cons_zero, List.set_cons_succ])
        refine wpAnyH_take (i := 8) (v := ?v143) (by simp only [List.getElem?_toArray, List.getElem?_cons_succ, List.getElem?_cons_zero]; rfl) (by kernel_rfl) (by kernel_rfl) (by kernel_rfl) (by exact fun _ _ _ h => h) (Or.inl ⟨by rfl, ?y143⟩) hHeld ?r143
        case y143 => (intro w hSw; (try dsimp only at hSw); go_simp <;> with_reducible rfl)
        (try simp only [Act.put, List.setIfInBounds_toArray, List.set_cons_zero, List.set_cons_succ])
        refine wpAnyH_take (i := 9) (v := ?v144) (by simp only [List.getElem?_toArray, List.getElem?_cons_succ, List.getElem?_cons_zero]; rfl) (by kernel_rfl) (by kernel_rfl) (by kernel_rfl) (by exact fun _ _ _ h => h) (Or.inl ⟨by rfl, ?y144⟩) hHeld ?r144
        case y144 => (intro w hSw; (try dsimp only at hSw); go_simp <;> with_reducible rfl)
        (try simp only [Act.put, List.setIfInBounds_toArray, List.set_cons_zero, List.set_cons_succ])
        refine wpAnyH_ready (rs := [10]) (by kernel_rfl) (by simp) ?_
        refine AllReadyH.cons (by simp only [List.getElem?_toArray, List.getElem?_cons_succ, List.getElem?_cons_zero]; rfl) (fun K hK => ?_) AllReadyH.nil
        clear hHeld
        go_simp
        refine hK.out _ _ (by (try dsimp only); first | with_reducible exact s1 | with_reducible exact s2 | with_reducible exact s3 | with_reducible exact s8 | with_reducible exact s7) (fun hHeld => ?_)
        clear hK K
        (try simp only [Act.put, List.setIfInBounds_toArray, List.set_cons_zero, List.set_cons_succ])
        clear hHeld
        refine wpAnyH_done (by kernel_rfl) ?_ _
        have HB8 := Lib.hid (HB7.out.setCell (Nat.le_refl b) (.slice A7 (rowN t 6 + 1) c7) (p := ⟨b, 6, none⟩))
        clear HB7 k7 z7 hk7 s1 s2 s3 s7 s8 r0 ra HSX
        generalize w7.setCell ⟨b, 6, none⟩ (.slice A7 (rowN t 6 + 1) c7) = w8 at *
        go_wp2_with fail
        go_ret
        exact radd_yes HB8.out HITM.out (by simp [Item.group]) HT8.out
      · clear hHeld
        go_simp
        refine hK.out _ _ (by (try dsimp only); first | with_reducible exact s1 | with_reducible exact s2 | with_reducible exact s3 | with_reducible exact s8 | with_reducible exact s7) (fun hHeld => ?_)
        clear hK K
        (try simp only [Act.put, List.setIfInBounds_toArray, List.set_cons_zero, List.set_cons_succ])
        refine wpAnyH_ready (rs := [4]) (by kernel_rfl) (by simp) ?_
        refine AllReadyH.cons (by simp only [List.getElem?_toArray, List.getElem?_cons_succ, List.getElem?_cons_zero]; rfl) (fun K hK => ?_) AllReadyH.nil
        clear hHeld
        go_simp
        refine hK.out _ _ (by (try dsimp only); first | with_reducible exact s1 | with_reducible exact s2 | with_reducible exact s3 | with_reducible exact s8 | with_reducible exact s7) (fun hHeld => ?_)
        clear hK K
        (try simp only [Act.put, List.setIfInBounds_toArray, List.set_cons_zero, List.set_cons_succ])
        refine wpAnyH_ready (rs := [7]) (by kernel_rfl) (by simp) ?_
        refine AllReadyH.cons (by simp only [List.getElem?_toArray, List.getElem?_cons_succ, List.getElem?_cons_zero]; rfl) (fun K hK => ?_) AllReadyH.nil
        clear hHeld
        (refine step_app_own rfl (.tmp 55) (.tmp 57) 29 rfl base 53 iC _ 7 88 Tryd.underlying29 hiC hzC0 hzC1 hzC2 rfl (by decide) (v 6) (rowN t 6) (rowX t ds 6) (by first | rfl | simp [Act.eval]) HOW.out.drew ⟨w5.heap.size, 0, none⟩ 1 1 [.int .i64 ev.thread, .int .i64 ev.kind, .int .i64 ev.obj, .int .i64 ev.value, .int .i64 ev.site, .slice Ad ev.deps.length cd, .slice Af ev.frm.length cf] (by first | rfl | simp [Act.eval]) rfl HNW.out HON.out HM1.out HM2.out HM3.out ?_; intro v7 w7 hown hg hat; have hg1 : (w5.alloc (.cells #[.int .i64 ev.thread, .int .i64 ev.kind, .int .i64 ev.obj, .int .i64 ev.value, .int .i64 ev.site, .slice Ad ev.deps.length cd, .slice Af ev.frm.length cf] 53)).grownBy w7 (v 6).ownBlock := ⟨hg.os, hg.tape, hg.output, hg.size, hg.block⟩; obtain ⟨A7, c7, e7, -, -, -⟩ := owns_rd hown; subst e7; have HT8 := Lib.hid (HT5.out.push (i := 6) (it := (.event ev)) (d := (.slice Ad ev.deps.length cd, .slice Af ev.frm.length cf)) rfl hown hg1 hat (by intro e he; injection he with he; subst he; exact ⟨HDV2.out, HFV2.out⟩) HOK.out); have hb7 := (HT5.out.blk.alloc (.cells #[.int .i64 ev.thread, .int .i64 ev.kind, .int .i64 ev.obj, .int .i64 ev.value, .int .i64 ev.site, .slice Ad ev.deps.length cd, .slice Af ev.frm.length cf] 53)).grown hg1 (by intro e; have := HNV.out 6 (by omega) b e.symm; have := HBB.out; omega); have k7 := hb7.cell 6; have z7 := hb7.frozen 6; simp only [List.getElem?_toArray, List.getElem?_cons_zero, List.getElem?_cons_succ] at k7; have HB7 : Hid (Below b w w7) := Lib.hid (((HB5.out.mono (by have := HBB.out; omega)).alloc (by have := HBB.out; have := HB5.out.size; omega) _).grown hg1 (by have := HBB.out; have := HB5.out.size; simp; omega) (fun g e => by have := HNV.out 6 (by omega) g e; have := HBB.out; omega)); have hk7 : HiKeep N w5 w7 := (HiKeep.below ((Below.refl w5.heap.size w5).alloc (Nat.le_refl _) (.cells #[.int .i64 ev.thread, .int .i64 ev.kind, .int .i64 ev.obj, .int .i64 ev.value, .int .i64 ev.site, .slice Ad ev.deps.length cd, .slice Af ev.frm.length cf] 53))).trans (HiKeep.grown hg1 (fun g e => (HNV.out 6 (by omega) g e).2)); have s7 := HSX.out w7 hk7; have s8 := HSX.out _ (hk7.trans (HiKeep.grown (grownBy_set0 w7 b 6 (.slice A7 (rowN t 6 + 1) c7)) (fun g e => by injection e with e; have := HBB.out; omega))); clear hown hg hat hb7 hg1)
        refine hK.out _ _ (by (try dsimp only); first | with_reducible exact s1 | with_reducible exact s2 | with_reducible exact s3 | with_reducible exact s8 | with_reducible exact s7) (fun hHeld => ?_)
        clear hK K
        (try simp only [Act.put, List.setIfInBounds_toArray, List.set_cons_zero, List.set_cons_succ])
        refine wpAnyH_take (i := 8) (v := ?v145) (by simp only [List.getElem?_toArray, List.getElem?_cons_succ, List.getElem?_cons_zero]; rfl) (by kernel_rfl) (by kernel_rfl) (by kernel_rfl) (by exact fun _ _ _ h => h) (Or.inl ⟨by rfl, ?y145⟩) hHeld ?r145
        case y145 => (intro w hSw; (try dsimp only at hSw); go_simp <;> with_reducible rfl)
        (try simp only [Act.put, List.setIfInBounds_toArray, List.set_cons_zero, List.set_cons_succ])
        refine wpAnyH_take (i := 9) (v := ?v146) (by simp only [List.getElem?_toArray, List.getElem?_cons_succ, List.getElem?_cons_zero]; rfl) (by kernel_rfl) (by kernel_rfl) (by kernel_rfl) (by exact fun _ _ _ h => h) (Or.inl ⟨by rfl, ?y146⟩) hHeld ?r146
        case y146 => (intro w hSw; (try dsimp only at hSw); go_simp <;> with_reducible rfl)
        (try simp only [Act.put, List.setIfInBounds_toArray, List.set_cons_zero, List.set_cons_succ])
        refine wpAnyH_ready (rs := [10]) (by kernel_rfl) (by simp) ?_
        refine AllReadyH.cons (by simp only [List.getElem?_toArray, List.getElem?_cons_succ, List.getElem?_cons_zero]; rfl) (fun K hK => ?_) AllReadyH.nil
        clear hHeld
        go_simp
        refine hK.out _ _ (by (try dsimp only); first | with_reducible exact s1 | with_reducible exact s2 | with_reducible exact s3 | with_reducible exact s8 | with_reducible exact s7) (fun hHeld => ?_)
        clear hK K
        (try simp only [Act.put, List.setIfInBounds_toArray, List.set_cons_zero, List.set_cons_succ])
        clear hHeld
        refine wpAnyH_done (by kernel_rfl) ?_ _
        have HB8 := Lib.hid (HB7.out.setCell (Nat.le_refl b) (.slice A7 (rowN t 6 + 1) c7) (p := ⟨b, 6, none⟩))
        clear HB7 k7 z7 hk7 s1 s2 s3 s7 s8 r0 ra HSX
        generalize w7.setCell ⟨b, 6, none⟩ (.slice A7 (rowN t 6 + 1) c7) = w8 at *
        go_wp2_with fail
        go_ret
        exact radd_yes HB8.out HITM.out (by simp [Item.group]) HT8.out
  · skip
    have HPS := Lib.hid hps
    rw [hps] at hcell hn
    have h1 := hcell 1 nm rfl
    have i1 : (1 : Int) < (n : Int) := by simp at hn; omega
    have i2 : (2 : Int) ≤ (n : Int) := by omega
    have HCC := Lib.hid hc
    clear hcell hn hc hps
    go_enter Tryd.func18, Tryd.ntmps18
    go_wp2_with fail
    refine (rname_any nm w).mono ?_
    rintro e w1 ⟨rfl, hb1⟩
    have HB1 := Lib.hid hb1
    clear hb1 h0 h1
    have h0a := HCELL.out w1 HB1.out 0 wEvent rfl
    rw [Nat.add_zero] at h0a
    unfold wEvent at h0a
    cases hnm : nameB nm with
    | false =>
      clear hnm
      have hwl : (wEvent :: ps).length = n := (show ps.length + 1 = n from HN.out.symm)
      have HEV := Lib.hid (revent_any (some ⟨ab, off, none⟩) c (wEvent :: ps) w1 (by rw [hwl]; exact HTX.out.keep HB1.out) (HP.out.below HB1.out) HL.out (by have := HPN.out; simp; omega))
      rw [hwl] at HEV
      clear hwl
      go_wp2_with fail
      refine HEV.out.mono ?_
      rintro e w4 ⟨hb4, ev, dv, fv, okb, rfl, hok, hdv, hfv, hy, hno⟩
      rw [List.tail_cons] at hy hno
      obtain ⟨Ad, cd, rfl, -⟩ := id hdv
      obtain ⟨Af, cf, rfl, -⟩ := id hfv
      have HB4 := Lib.hid (HB1.out.trans (hb4.mono HB1.out.size))
      have HSW : Hid (N ≤ w1.heap.size) := Lib.hid (by have := HBB.out; have := HB1.out.size; omega)
      have HOK := Lib.hid hok
      have HDV := Lib.hid hdv
      have HFV := Lib.hid hfv
      have HY := Lib.hid hy
      have HNO := Lib.hid hno
      have HSZ4 : Hid (w1.heap.size ≤ w4.heap.size) := Lib.hid hb4.size
      clear hb4 hok hdv hfv hy hno HEV h0a
      unfold Evn.val
      have hb5 : Below w4.heap.size w4 (w4.alloc (.cells #[.int .i64 ev.thread, .int .i64 ev.kind, .int .i64 ev.obj, .int .i64 ev.value, .int .i64 ev.site, .slice Ad ev.deps.length cd, .slice Af ev.frm.length cf] 53)) := (Below.refl _ _).alloc (Nat.le_refl _) _
      have HX5 := Lib.hid (Blk.new w4 53 #[.int .i64 ev.thread, .int .i64 ev.kind, .int .i64 ev.obj, .int .i64 ev.value, .int .i64 ev.site, .slice Ad ev.deps.length cd, .slice Af ev.frm.length cf])
      have HB5x : Hid (Below w.heap.size w (w4.alloc (.cells #[.int .i64 ev.thread, .int .i64 ev.kind, .int .i64 ev.obj, .int .i64 ev.value, .int .i64 ev.site, .slice Ad ev.deps.length cd, .slice Af ev.frm.length cf] 53))) := Lib.hid (HB4.out.trans (hb5.mono HB4.out.size))
      have HXS : Hid (w1.heap.size ≤ w4.heap.size) := Lib.hid (by have := HB4.out.size; exact HSZ4.out)
      have HDV5 := Lib.hid (HDV.out.keep hb5)
      have HFV5 := Lib.hid (HFV.out.keep hb5)
      clear hb5
      go_upto_region 11 with fail
      generalize hw5 : w4.alloc (.cells #[.int .i64 ev.thread, .int .i64 ev.kind, .int .i64 ev.obj, .int .i64 ev.value, .int .i64 ev.site, .slice Ad ev.deps.length cd, .slice Af ev.frm.length cf] 53) = w5 at *
      generalize hxb : w4.heap.size = xb at *
      clear hw5 hxb HDV HFV
      cases okb with
      | false =>
        have HNO2 : Hid (itemI wEvent ps = none) := Lib.hid (by rw [itemI_event]; cases e : eventI ps with | none => rfl | some x => exact absurd (HY.out x e).1 (by simp))
        go_wp2_with fail
        go_ret
        exact radd_no HB5x.out (by have := HBB.out; omega) HNO2.out
      | true =>
        have HITM : Hid (itemI wEvent ps = some (.event ev)) := Lib.hid (by rw [itemI_event]; cases e : eventI ps with | none => exact absurd (HNO.out e) (by simp) | some x => rw [(HY.out x e).2]; rfl)
        have HDV2 : Hid (IntsO w5 (EvP base v) (.slice Ad ev.deps.length cd) ev.deps) := Lib.hid (HDV5.out.mono (fun g _ hg => ⟨by have := HBB.out; have := HSW.out; omega, fun i hi e => by have := (HNV.out i hi g e).2; have := HSW.out; omega⟩))
        have HFV2 : Hid (IntsO w5 (EvP base v) (.slice Af ev.frm.length cf) ev.frm) := Lib.hid (HFV5.out.mono (fun g _ hg => ⟨by have := HBB.out; have := HSW.out; omega, fun i hi e => by have := (HNV.out i hi g e).2; have := HSW.out; omega⟩))
        have HT5 := Lib.hid (HTK.out w5 HB5x.out)
        have HNW := Lib.hid (cells_at w5 53 [.int .i64 ev.thread, .int .i64 ev.kind, .int .i64 ev.obj, .int .i64 ev.value, .int .i64 ev.site, .slice Ad ev.deps.length cd, .slice Af ev.frm.length cf] rfl)
        have HON : Hid (∀ u ∈ ([.int .i64 ev.thread, .int .i64 ev.kind, .int .i64 ev.obj, .int .i64 ev.value, .int .i64 ev.site, .slice Ad ev.deps.length cd, .slice Af ev.frm.length cf] : List Value), u.oneCell' = true) := Lib.hid (by intro u hu; simp at hu; rcases hu with rfl | rfl | rfl | rfl | rfl | rfl | rfl <;> rfl)
        have HM1 : Hid (rowN t 6 + 1 ≤ maxLen) := (by refine Lib.hid ?_; have := HRN.out 6; unfold maxLen; omega)
        have HM2 : Hid ((rowN t 6 + 1) * 88 ≤ 140737488355328) := (by refine Lib.hid ?_; have := HRN.out 6; omega)
        have HM3 : Hid (base ≤ (w5.alloc (.cells #[.int .i64 ev.thread, .int .i64 ev.kind, .int .i64 ev.obj, .int .i64 ev.value, .int .i64 ev.site, .slice Ad ev.deps.length cd, .slice Af ev.frm.length cf] 53)).heap.size) := (by refine Lib.hid ?_; have := HT5.out.le; simp; omega)
        have HOW := Lib.hid ((HT5.out.row 6 (by omega)).alloc (.cells #[.int .i64 ev.thread, .int .i64 ev.kind, .int .i64 ev.obj, .int .i64 ev.value, .int .i64 ev.site, .slice Ad ev.deps.length cd, .slice Af ev.frm.length cf] 53))
        have r0 := HT5.out.blk.cell 6
        have ra := (HT5.out.blk.alloc (.cells #[.int .i64 ev.thread, .int .i64 ev.kind, .int .i64 ev.obj, .int .i64 ev.value, .int .i64 ev.site, .slice Ad ev.deps.length cd, .slice Af ev.frm.length cf] 53)).cell 6
        simp only [List.getElem?_toArray, List.getElem?_cons_zero, List.getElem?_cons_succ] at r0 ra
        have HSX : Hid (∀ w', HiKeep N w5 w' → w'.cell? ⟨xb, 0, none⟩ = some (.int .i64 ev.thread) ∧ w'.cell? ⟨xb, 1, none⟩ = some (.int .i64 ev.kind) ∧ w'.cell? ⟨xb, 2, none⟩ = some (.int .i64 ev.obj) ∧ w'.cell? ⟨xb, 3, none⟩ = some (.int .i64 ev.value) ∧ w'.cell? ⟨xb, 4, none⟩ = some (.int .i64 ev.site) ∧ w'.cell? ⟨xb, 5, none⟩ = some (.slice Ad ev.deps.length cd) ∧ w'.cell? ⟨xb, 6, none⟩ = some (.slice Af ev.frm.length cf)) := Lib.hid (fun w' h => ⟨h ⟨xb, 0, none⟩ _ (Nat.le_trans HSW.out HXS.out) (HX5.out.cell 0), h ⟨xb, 1, none⟩ _ (Nat.le_trans HSW.out HXS.out) (HX5.out.cell 1), h ⟨xb, 2, none⟩ _ (Nat.le_trans HSW.out HXS.out) (HX5.out.cell 2), h ⟨xb, 3, none⟩ _ (Nat.le_trans HSW.out HXS.out) (HX5.out.cell 3), h ⟨xb, 4, none⟩ _ (Nat.le_trans HSW.out HXS.out) (HX5.out.cell 4), h ⟨xb, 5, none⟩ _ (Nat.le_trans HSW.out HXS.out) (HX5.out.cell 5), h ⟨xb, 6, none⟩ _ (Nat.le_trans HSW.out HXS.out) (HX5.out.cell 6)⟩)
        have s1 := HSX.out _ (HiKeep.below (Below.refl w5.heap.size w5).drew)
        have s2 := HSX.out _ (HiKeep.below ((Below.refl w5.heap.size w5).alloc (Nat.le_refl _) (.cells #[.int .i64 ev.thread, .int .i64 ev.kind, .int .i64 ev.obj, .int .i64 ev.value, .int .i64 ev.site, .slice Ad ev.deps.length cd, .slice Af ev.frm.length cf] 53)).drew)
        have s3 := HSX.out _ (HiKeep.below ((Below.refl w5.heap.size w5).drew.alloc (Nat.le_refl _) (.cells #[.int .i64 ev.thread, .int .i64 ev.kind, .int .i64 ev.obj, .int .i64 ev.value, .int .i64 ev.site, .slice Ad ev.deps.length cd, .slice Af ev.frm.length cf] 53)))
        have HB5 : Hid (Below w.heap.size w w5) := HB5x
        go_upto_region 12 with fail
        refine wp_region_held_drew (S := fun w' => w'.cell? ⟨xb, 0, none⟩ = some (.int .i64 ev.thread) ∧ w'.cell? ⟨xb, 1, none⟩ = some (.int .i64 ev.kind) ∧ w'.cell? ⟨xb, 2, none⟩ = some (.int .i64 ev.obj) ∧ w'.cell? ⟨xb, 3, none⟩ = some (.int .i64 ev.value) ∧ w'.cell? ⟨xb, 4, none⟩ = some (.int .i64 ev.site) ∧ w'.cell? ⟨xb, 5, none⟩ = some (.slice Ad ev.deps.length cd) ∧ w'.cell? ⟨xb, 6, none⟩ = some (.slice Af ev.frm.length cf)) (by kernel_rfl) (by (try dsimp only); first | with_reducible exact s1 | with_reducible exact s2 | with_reducible exact s3 | with_reducible exact s8 | with_reducible exact s7) (fun hHeld => ?_)
        refine wpAnyH_take (i := 0) (v := ?v147) (by simp only [List.getElem?_toArray, List.getElem?_cons_zero]; rfl) (by kernel_rfl) (by kernel_rfl) (by kernel_rfl) (by exact fun _ _ _ h => h) (Or.inl ⟨by rfl, ?y147⟩) hHeld ?r147
        case y147 => (intro w hSw; (try dsimp only at hSw); go_simp <;> with_reducible rfl)
        (try simp only [Act.put, List.setIfInBounds_toArray, List.set_cons_zero, List.set_cons_succ])
        refine wpAnyH_take (i := 1) (v := ?v148) (by simp only [List.getElem?_toArray, List.getElem?_cons_succ, List.getElem?_cons_zero]; rfl) (by kernel_rfl) (by kernel_rfl) (by kernel_rfl) (by exact fun _ _ _ h => h) (Or.inl ⟨by rfl, ?y148⟩) hHeld ?r148
        case y148 => (intro w hSw; (try dsimp only at hSw); go_simp <;> with_reducible rfl)
        (try simp only [Act.put, List.setIfInBounds_toArray, List.set_cons_zero, List.set_cons_succ])
        refine wpAnyH_take (i := 2) (v := ?v149) (by simp only [List.getElem?_toArray, List.getElem?_cons_succ, List.getElem?_cons_zero]; rfl) (by kernel_rfl) (by kernel_rfl) (by kernel_rfl) (by exact fun _ _ _ h => h) (Or.inl ⟨by rfl, ?y149⟩) hHeld ?r149
        case y149 => (intro w hSw; (try dsimp only at hSw); go_simp <;> with_reducible rfl)
        (try simp only [Act.put, List.setIfInBounds_toArray, List.set_cons_zero, List.set_cons_succ])
        refine wpAnyH_take (i := 3) (v := ?v150) (by simp only [List.getElem?_toArray, List.getElem?_cons_succ, List.getElem?_cons_zero]; rfl) (by kernel_rfl) (by kernel_rfl) (by kernel_rfl) (by exact fun _ _ _ h => h) (Or.inl ⟨by rfl, ?y150⟩) hHeld ?r150
        case y150 => (intro w hSw; (try dsimp only at hSw); go_simp <;> with_reducible rfl)
        (try simp only [Act.put, List.setIfInBounds_toArray, List.set_cons_zero, List.set_cons_succ])
        refine wpAnyH_take (i := 5) (v := ?v151) (by simp only [List.getElem?_toArray, List.getElem?_cons_succ, List.getElem?_cons_zero]; rfl) (by kernel_rfl) (by kernel_rfl) (by kernel_rfl) (by exact fun _ _ _ h => h) (Or.inl ⟨by rfl, ?y151⟩) hHeld ?r151
        case y151 => (intro w hSw; (try dsimp only at hSw); go_simp <;> with_reducible rfl)
        (try simp only [Act.put, List.setIfInBounds_toArray, List.set_cons_zero, List.set_cons_succ])
        refine wpAnyH_ready (rs := [4, 6]) (by kernel_rfl) (by simp) ?_
        refine AllReadyH.cons (by simp only [List.getElem?_toArray, List.getElem?_cons_succ, List.getElem?_cons_zero]; rfl) (fun K hK => ?_) (AllReadyH.cons (by simp only [List.getElem?_toArray, List.getElem?_cons_succ, List.getElem?_cons_zero]; rfl) (fun K hK => ?_) AllReadyH.nil)
        · clear hHeld
          go_simp
          refine hK.out _ _ (by (try dsimp only); first | with_reducible exact s1 | with_reducible exact s2 | with_reducible exact s3 | with_reducible exact s8 | with_reducible exact s7) (fun hHeld => ?_)
          clear hK K
          (try simp only [Act.put, List.setIfInBounds_toArray, List.set_cons_zero, List.set_cons_succ])
          refine wpAnyH_ready (rs := [6]) (by kernel_rfl) (by simp) ?_
          refine AllReadyH.cons (by simp only [List.getElem?_toArray, List.getElem?_cons_succ, List.getElem?_cons_zero]; rfl) (fun K hK => ?_) AllReadyH.nil
          clear hHeld
          go_simp
          refine hK.out _ _ (by (try dsimp only); first | with_reducible exact s1 | with_reducible exact s2 | with_reducible exact s3 | with_reducible exact s8 | with_reducible exact s7) (fun hHeld => ?_)
          clear hK K
          (try simp only [Act.put, List.setIfInBounds_toArray, List.set_cons_zero, List.set_cons_succ])
          refine wpAnyH_ready (rs := [7]) (by kernel_rfl) (by simp) ?_
          refine AllReadyH.cons (by simp only [List.getElem?_toArray, List.getElem?_cons_succ, List.getElem?_cons_zero]; rfl) (fun K hK => ?_) AllReadyH.nil
          clear hHeld
          (refine step_app_own rfl (.tmp 55) (.tmp 57) 29 rfl base 53 iC _ 7 88 Tryd.underlying29 hiC hzC0 hzC1 hzC2 rfl (by decide) (v 6) (rowN t 6) (rowX t ds 6) (by first | rfl | simp [Act.eval]) HOW.out.drew ⟨w5.heap.size, 0, none⟩ 1 1 [.int .i64 ev.thread, .int .i64 ev.kind, .int .i64 ev.obj, .int .i64 ev.value, .int .i64 ev.site, .slice Ad ev.deps.length cd, .slice Af ev.frm.length cf] (by first | rfl | simp [Act.eval]) rfl HNW.out HON.out HM1.out HM2.out HM3.out ?_; intro v7 w7 hown hg hat; have hg1 : (w5.alloc (.cells #[.int .i64 ev.thread, .int .i64 ev.kind, .int .i64 ev.obj, .int .i64 ev.value, .int .i64 ev.site, .slice Ad ev.deps.length cd, .slice Af ev.frm.length cf] 53)).grownBy w7 (v 6).ownBlock := ⟨hg.os, hg.tape, hg.output, hg.size, hg.block⟩; obtain ⟨A7, c7, e7, -, -, -⟩ := owns_rd hown; subst e7; have HT8 := Lib.hid (HT5.out.push (i := 6) (it := (.event ev)) (d := (.slice Ad ev.deps.length cd, .slice Af ev.frm.length cf)) rfl hown hg1 hat (by intro e he; injection he with he; subst he; exact ⟨HDV2.out, HFV2.out⟩) HOK.out); have hb7 := (HT5.out.blk.alloc (.cells #[.int .i64 ev.thread, .int .i64 ev.kind, .int .i64 ev.obj, .int .i64 ev.value, .int .i64 ev.site, .slice Ad ev.deps.length cd, .slice Af ev.frm.length cf] 53)).grown hg1 (by intro e; have := HNV.out 6 (by omega) b e.symm; have := HBB.out; omega); have k7 := hb7.cell 6; have z7 := hb7.frozen 6; simp only [List.getElem?_toArray, List.getElem?_cons_zero, List.getElem?_cons_succ] at k7; have HB7 : Hid (Below b w w7) := Lib.hid (((HB5.out.mono (by have := HBB.out; omega)).alloc (by have := HBB.out; have := HB5.out.size; omega) _).grown hg1 (by have := HBB.out; have := HB5.out.size; simp; omega) (fun g e => by have := HNV.out 6 (by omega) g e; have := HBB.out; omega)); have hk7 : HiKeep N w5 w7 := (HiKeep.below ((Below.refl w5.heap.size w5).alloc (Nat.le_refl _) (.cells #[.int .i64 ev.thread, .int .i64 ev.kind, .int .i64 ev.obj, .int .i64 ev.value, .int .i64 ev.site, .slice Ad ev.deps.length cd, .slice Af ev.frm.length cf] 53))).trans (HiKeep.grown hg1 (fun g e => (HNV.out 6 (by omega) g e).2)); have s7 := HSX.out w7 hk7; have s8 := HSX.out _ (hk7.trans (HiKeep.grown (grownBy_set0 w7 b 6 (.slice A7 (rowN t 6 + 1) c7)) (fun g e => by injection e with e; have := HBB.out; omega))); clear hown hg hat hb7 hg1)
          refine hK.out _ _ (by (try dsimp only); first | with_reducible exact s1 | with_reducible exact s2 | with_reducible exact s3 | with_reducible exact s8 | with_reducible exact s7) (fun hHeld => ?_)
          clear hK K
          (try simp only [Act.put, List.setIfInBounds_toArray, List.set_cons_zero, List.set_cons_succ])
          refine wpAnyH_take (i := 8) (v := ?v152) (by simp only [List.getElem?_toArray, List.getElem?_cons_succ, List.getElem?_cons_zero]; rfl) (by kernel_rfl) (by kernel_rfl) (by kernel_rfl) (by exact fun _ _ _ h => h) (Or.inl ⟨by rfl, ?y152⟩) hHeld ?r152
          case y152 => (intro w hSw; (try dsimp only at hSw); go_simp <;> with_reducible rfl)
          (try simp only [Act.put, List.setIfInBounds_toArray, List.set_cons_zero, List.set_cons_succ])
          refine wpAnyH_take (i := 9) (v := ?v153) (by simp only [List.getElem?_toArray, List.getElem?_cons_succ, List.getElem?_cons_zero]; rfl) (by kernel_rfl) (by kernel_rfl) (by kernel_rfl) (by exact fun _ _ _ h => h) (Or.inl ⟨by rfl, ?y153⟩) hHeld ?r153
          case y153 => (intro w hSw; (try dsimp only at hSw); go_simp <;> with_reducible rfl)
          (try simp only [Act.put, List.setIfInBounds_toArray, List.set_cons_zero, List.set_cons_succ])
          refine wpAnyH_ready (rs := [10]) (by kernel_rfl) (by simp) ?_
          refine AllReadyH.cons (by simp only [List.getElem?_toArray, List.getElem?_cons_succ, List.getElem?_cons_zero]; rfl) (fun K hK => ?_) AllReadyH.nil
          clear hHeld
          go_simp
          refine hK.out _ _ (by (try dsimp only); first | with_reducible exact s1 | with_reducible exact s2 | with_reducible exact s3 | with_reducible exact s8 | with_reducible exact s7) (fun hHeld => ?_)
          clear hK K
          (try simp only [Act.put, List.setIfInBounds_toArray, List.set_cons_zero, List.set_cons_succ])
          clear hHeld
          refine wpAnyH_done (by kernel_rfl) ?_ _
          have HB8 := Lib.hid (HB7.out.setCell (Nat.le_refl b) (.slice A7 (rowN t 6 + 1) c7) (p := ⟨b, 6, none⟩))
          clear HB7 k7 z7 hk7 s1 s2 s3 s7 s8 r0 ra HSX
          generalize w7.setCell ⟨b, 6, none⟩ (.slice A7 (rowN t 6 + 1) c7) = w8 at *
          go_wp2_with fail
          go_ret
          exact radd_yes HB8.out HITM.out (by simp [Item.group]) HT8.out
        · clear hHeld
          go_simp
          refine hK.out _ _ (by (try dsimp only); first | with_reducible exact s1 | with_reducible exact s2 | with_reducible exact s3 | with_reducible exact s8 | with_reducible exact s7) (fun hHeld => ?_)
          clear hK K
          (try simp only [Act.put, List.setIfInBounds_toArray, List.set_cons_zero, List.set_cons_succ])
          refine wpAnyH_ready (rs := [4]) (by kernel_rfl) (by simp) ?_
          refine AllReadyH.cons (by simp only [List.getElem?_toArray, List.getElem?_cons_succ, List.getElem?_cons_zero]; rfl) (fun K hK => ?_) AllReadyH.nil
          clear hHeld
          go_simp
          refine hK.out _ _ (by (try dsimp only); first | with_reducible exact s1 | with_reducible exact s2 | with_reducible exact s3 | with_reducible exact s8 | with_reducible exact s7) (fun hHeld => ?_)
          clear hK K
          (try simp only [Act.put, List.setIfInBounds_toArray, List.set_cons_zero, List.set_cons_succ])
          refine wpAnyH_ready (rs := [7]) (by kernel_rfl) (by simp) ?_
          refine AllReadyH.cons (by simp only [List.getElem?_toArray, List.getElem?_cons_succ, List.getElem?_cons_zero]; rfl) (fun K hK => ?_) AllReadyH.nil
          clear hHeld
          (refine step_app_own rfl (.tmp 55) (.tmp 57) 29 rfl base 53 iC _ 7 88 Tryd.underlying29 hiC hzC0 hzC1 hzC2 rfl (by decide) (v 6) (rowN t 6) (rowX t ds 6) (by first | rfl | simp [Act.eval]) HOW.out.drew ⟨w5.heap.size, 0, none⟩ 1 1 [.int .i64 ev.thread, .int .i64 ev.kind, .int .i64 ev.obj, .int .i64 ev.value, .int .i64 ev.site, .slice Ad ev.deps.length cd, .slice Af ev.frm.length cf] (by first | rfl | simp [Act.eval]) rfl HNW.out HON.out HM1.out HM2.out HM3.out ?_; intro v7 w7 hown hg hat; have hg1 : (w5.alloc (.cells #[.int .i64 ev.thread, .int .i64 ev.kind, .int .i64 ev.obj, .int .i64 ev.value, .int .i64 ev.site, .slice Ad ev.deps.length cd, .slice Af ev.frm.length cf] 53)).grownBy w7 (v 6).ownBlock := ⟨hg.os, hg.tape, hg.output, hg.size, hg.block⟩; obtain ⟨A7, c7, e7, -, -, -⟩ := owns_rd hown; subst e7; have HT8 := Lib.hid (HT5.out.push (i := 6) (it := (.event ev)) (d := (.slice Ad ev.deps.length cd, .slice Af ev.frm.length cf)) rfl hown hg1 hat (by intro e he; injection he with he; subst he; exact ⟨HDV2.out, HFV2.out⟩) HOK.out); have hb7 := (HT5.out.blk.alloc (.cells #[.int .i64 ev.thread, .int .i64 ev.kind, .int .i64 ev.obj, .int .i64 ev.value, .int .i64 ev.site, .slice Ad ev.deps.length cd, .slice Af ev.frm.length cf] 53)).grown hg1 (by intro e; have := HNV.out 6 (by omega) b e.symm; have := HBB.out; omega); have k7 := hb7.cell 6; have z7 := hb7.frozen 6; simp only [List.getElem?_toArray, List.getElem?_cons_zero, List.getElem?_cons_succ] at k7; have HB7 : Hid (Below b w w7) := Lib.hid (((HB5.out.mono (by have := HBB.out; omega)).alloc (by have := HBB.out; have := HB5.out.size; omega) _).grown hg1 (by have := HBB.out; have := HB5.out.size; simp; omega) (fun g e => by have := HNV.out 6 (by omega) g e; have := HBB.out; omega)); have hk7 : HiKeep N w5 w7 := (HiKeep.below ((Below.refl w5.heap.size w5).alloc (Nat.le_refl _) (.cells #[.int .i64 ev.thread, .int .i64 ev.kind, .int .i64 ev.obj, .int .i64 ev.value, .int .i64 ev.site, .slice Ad ev.deps.length cd, .slice Af ev.frm.length cf] 53))).trans (HiKeep.grown hg1 (fun g e => (HNV.out 6 (by omega) g e).2)); have s7 := HSX.out w7 hk7; have s8 := HSX.out _ (hk7.trans (HiKeep.grown (grownBy_set0 w7 b 6 (.slice A7 (rowN t 6 + 1) c7)) (fun g e => by injection e with e; have := HBB.out; omega))); clear hown hg hat hb7 hg1)
          refine hK.out _ _ (by (try dsimp only); first | with_reducible exact s1 | with_reducible exact s2 | with_reducible exact s3 | with_reducible exact s8 | with_reducible exact s7) (fun hHeld => ?_)
          clear hK K
          (try simp only [Act.put, List.setIfInBounds_toArray, List.set_cons_zero, List.set_cons_succ])
          refine wpAnyH_take (i := 8) (v := ?v154) (by simp only [List.getElem?_toArray, List.getElem?_cons_succ, List.getElem?_cons_zero]; rfl) (by kernel_rfl) (by kernel_rfl) (by kernel_rfl) (by exact fun _ _ _ h => h) (Or.inl ⟨by rfl, ?y154⟩) hHeld ?r154
          case y154 => (intro w hSw; (try dsimp only at hSw); go_simp <;> with_reducible rfl)
          (try simp only [Act.put, List.setIfInBounds_toArray, List.set_cons_zero, List.set_cons_succ])
          refine wpAnyH_take (i := 9) (v := ?v155) (by simp only [List.getElem?_toArray, List.getElem?_cons_succ, List.getElem?_cons_zero]; rfl) (by kernel_rfl) (by kernel_rfl) (by kernel_rfl) (by exact fun _ _ _ h => h) (Or.inl ⟨by rfl, ?y155⟩) hHeld ?r155
          case y155 => (intro w hSw; (try dsimp only at hSw); go_simp <;> with_reducible rfl)
          (try simp only [Act.put, List.setIfInBounds_toArray, List.set_cons_zero, List.set_cons_succ])
          refine wpAnyH_ready (rs := [10]) (by kernel_rfl) (by simp) ?_
          refine AllReadyH.cons (by simp only [List.getElem?_toArray, List.getElem?_cons_succ, List.getElem?_cons_zero]; rfl) (fun K hK => ?_) AllReadyH.nil
          clear hHeld
          go_simp
          refine hK.out _ _ (by (try dsimp only); first | with_reducible exact s1 | with_reducible exact s2 | with_reducible exact s3 | with_reducible exact s8 | with_reducible exact s7) (fun hHeld => ?_)
          clear hK K
          (try simp only [Act.put, List.setIfInBounds_toArray, List.set_cons_zero, List.set_cons_succ])
          clear hHeld
          refine wpAnyH_done (by kernel_rfl) ?_ _
          have HB8 := Lib.hid (HB7.out.setCell (Nat.le_refl b) (.slice A7 (rowN t 6 + 1) c7) (p := ⟨b, 6, none⟩))
          clear HB7 k7 z7 hk7 s1 s2 s3 s7 s8 r0 ra HSX
          generalize w7.setCell ⟨b, 6, none⟩ (.slice A7 (rowN t 6 + 1) c7) = w8 at *
          go_wp2_with fail
          go_ret
          exact radd_yes HB8.out HITM.out (by simp [Item.group]) HT8.out
    | true =>
      clear hnm
      obtain ⟨dp, hsl, htx⟩ := txts_dropn HN.out HTX.out 2 (by rw [HPS.out]; simp)
      rw [show (wEvent :: ps).drop 2 = qs by rw [HPS.out]; rfl] at hsl htx
      have hsl2 : ∀ w : World, (Instr.slice 25 (.slice (some ⟨ab, off, none⟩) n c) (some (.int .i64 2)) none none).run Tryd.prog w = .ok (.slice dp qs.length (c - 2)) w := hsl
      have HTQ : Hid (Txts w (.slice dp qs.length (c - 2)) qs) := Lib.hid htx
      have HLQ : Hid (∀ p ∈ qs, p.length ≤ 1000000000) := Lib.hid (fun p hp => HL.out p (by rw [HPS.out]; simp [hp]))
      have HNQ : Hid (qs.length ≤ 1000000000) := (by refine Lib.hid ?_; have := HPN.out; rw [HPS.out] at this; simp at this; omega)
      clear hsl htx
      go_wp2_with fail
      refine (rlongs_any dp (c - 2) qs w1 (HTQ.out.keep HB1.out) (HP.out.below HB1.out) HLQ.out HNQ.out).mono ?_
      rintro e w2 hr2
      cases hmm : qs.mapM canonI with
      | none =>
        obtain ⟨rfl, hb2⟩ := longs_no hr2 hmm
        have HB2 := Lib.hid (HB1.out.trans (hb2.mono HB1.out.size))
        clear hr2 hmm hb2 h0a hsl2
        have h0b := HCELL.out w2 HB2.out 0 wEvent rfl
        rw [Nat.add_zero] at h0b
        unfold wEvent at h0b
        have hwl : (wEvent :: ps).length = n := (show ps.length + 1 = n from HN.out.symm)
        have HEV := Lib.hid (revent_any (some ⟨ab, off, none⟩) c (wEvent :: ps) w2 (by rw [hwl]; exact HTX.out.keep HB2.out) (HP.out.below HB2.out) HL.out (by have := HPN.out; simp; omega))
        rw [hwl] at HEV
        clear hwl
        go_wp2_with fail
        refine HEV.out.mono ?_
        rintro e w4 ⟨hb4, ev, dv, fv, okb, rfl, hok, hdv, hfv, hy, hno⟩
        rw [List.tail_cons] at hy hno
        obtain ⟨Ad, cd, rfl, -⟩ := id hdv
        obtain ⟨Af, cf, rfl, -⟩ := id hfv
        have HB4 := Lib.hid (HB2.out.trans (hb4.mono HB2.out.size))
        have HSW : Hid (N ≤ w2.heap.size) := Lib.hid (by have := HBB.out; have := HB2.out.size; omega)
        have HOK := Lib.hid hok
        have HDV := Lib.hid hdv
        have HFV := Lib.hid hfv
        have HY := Lib.hid hy
        have HNO := Lib.hid hno
        have HSZ4 : Hid (w2.heap.size ≤ w4.heap.size) := Lib.hid hb4.size
        clear hb4 hok hdv hfv hy hno HEV h0b
        unfold Evn.val
        have hb5 : Below w4.heap.size w4 (w4.alloc (.cells #[.int .i64 ev.thread, .int .i64 ev.kind, .int .i64 ev.obj, .int .i64 ev.value, .int .i64 ev.site, .slice Ad ev.deps.length cd, .slice Af ev.frm.length cf] 53)) := (Below.refl _ _).alloc (Nat.le_refl _) _
        have HX5 := Lib.hid (Blk.new w4 53 #[.int .i64 ev.thread, .int .i64 ev.kind, .int .i64 ev.obj, .int .i64 ev.value, .int .i64 ev.site, .slice Ad ev.deps.length cd, .slice Af ev.frm.length cf])
        have HB5x : Hid (Below w.heap.size w (w4.alloc (.cells #[.int .i64 ev.thread, .int .i64 ev.kind, .int .i64 ev.obj, .int .i64 ev.value, .int .i64 ev.site, .slice Ad ev.deps.length cd, .slice Af ev.frm.length cf] 53))) := Lib.hid (HB4.out.trans (hb5.mono HB4.out.size))
        have HXS : Hid (w2.heap.size ≤ w4.heap.size) := Lib.hid (by have := HB4.out.size; exact HSZ4.out)
        have HDV5 := Lib.hid (HDV.out.keep hb5)
        have HFV5 := Lib.hid (HFV.out.keep hb5)
        clear hb5
        go_upto_region 11 with fail
        generalize hw5 : w4.alloc (.cells #[.int .i64 ev.thread, .int .i64 ev.kind, .int .i64 ev.obj, .int .i64 ev.value, .int .i64 ev.site, .slice Ad ev.deps.length cd, .slice Af ev.frm.length cf] 53) = w5 at *
        generalize hxb : w4.heap.size = xb at *
        clear hw5 hxb HDV HFV
        cases okb with
        | false =>
          have HNO2 : Hid (itemI wEvent ps = none) := Lib.hid (by rw [itemI_event]; cases e : eventI ps with | none => rfl | some x => exact absurd (HY.out x e).1 (by simp))
          go_wp2_with fail
          go_ret
          exact radd_no HB5x.out (by have := HBB.out; omega) HNO2.out
        | true =>
          have HITM : Hid (itemI wEvent ps = some (.event ev)) := Lib.hid (by rw [itemI_event]; cases e : eventI ps with | none => exact absurd (HNO.out e) (by simp) | some x => rw [(HY.out x e).2]; rfl)
          have HDV2 : Hid (IntsO w5 (EvP base v) (.slice Ad ev.deps.length cd) ev.deps) := Lib.hid (HDV5.out.mono (fun g _ hg => ⟨by have := HBB.out; have := HSW.out; omega, fun i hi e => by have := (HNV.out i hi g e).2; have := HSW.out; omega⟩))
          have HFV2 : Hid (IntsO w5 (EvP base v) (.slice Af ev.frm.length cf) ev.frm) := Lib.hid (HFV5.out.mono (fun g _ hg => ⟨by have := HBB.out; have := HSW.out; omega, fun i hi e => by have := (HNV.out i hi g e).2; have := HSW.out; omega⟩))
          have HT5 := Lib.hid (HTK.out w5 HB5x.out)
          have HNW := Lib.hid (cells_at w5 53 [.int .i64 ev.thread, .int .i64 ev.kind, .int .i64 ev.obj, .int .i64 ev.value, .int .i64 ev.site, .slice Ad ev.deps.length cd, .slice Af ev.frm.length cf] rfl)
          have HON : Hid (∀ u ∈ ([.int .i64 ev.thread, .int .i64 ev.kind, .int .i64 ev.obj, .int .i64 ev.value, .int .i64 ev.site, .slice Ad ev.deps.length cd, .slice Af ev.frm.length cf] : List Value), u.oneCell' = true) := Lib.hid (by intro u hu; simp at hu; rcases hu with rfl | rfl | rfl | rfl | rfl | rfl | rfl <;> rfl)
          have HM1 : Hid (rowN t 6 + 1 ≤ maxLen) := (by refine Lib.hid ?_; have := HRN.out 6; unfold maxLen; omega)
          have HM2 : Hid ((rowN t 6 + 1) * 88 ≤ 140737488355328) := (by refine Lib.hid ?_; have := HRN.out 6; omega)
          have HM3 : Hid (base ≤ (w5.alloc (.cells #[.int .i64 ev.thread, .int .i64 ev.kind, .int .i64 ev.obj, .int .i64 ev.value, .int .i64 ev.site, .slice Ad ev.deps.length cd, .slice Af ev.frm.length cf] 53)).heap.size) := (by refine Lib.hid ?_; have := HT5.out.le; simp; omega)
          have HOW := Lib.hid ((HT5.out.row 6 (by omega)).alloc (.cells #[.int .i64 ev.thread, .int .i64 ev.kind, .int .i64 ev.obj, .int .i64 ev.value, .int .i64 ev.site, .slice Ad ev.deps.length cd, .slice Af ev.frm.length cf] 53))
          have r0 := HT5.out.blk.cell 6
          have ra := (HT5.out.blk.alloc (.cells #[.int .i64 ev.thread, .int .i64 ev.kind, .int .i64 ev.obj, .int .i64 ev.value, .int .i64 ev.site, .slice Ad ev.deps.length cd, .slice Af ev.frm.length cf] 53)).cell 6
          simp only [List.getElem?_toArray, List.getElem?_cons_zero, List.getElem?_cons_succ] at r0 ra
          have HSX : Hid (∀ w', HiKeep N w5 w' → w'.cell? ⟨xb, 0, none⟩ = some (.int .i64 ev.thread) ∧ w'.cell? ⟨xb, 1, none⟩ = some (.int .i64 ev.kind) ∧ w'.cell? ⟨xb, 2, none⟩ = some (.int .i64 ev.obj) ∧ w'.cell? ⟨xb, 3, none⟩ = some (.int .i64 ev.value) ∧ w'.cell? ⟨xb, 4, none⟩ = some (.int .i64 ev.site) ∧ w'.cell? ⟨xb, 5, none⟩ = some (.slice Ad ev.deps.length cd) ∧ w'.cell? ⟨xb, 6, none⟩ = some (.slice Af ev.frm.length cf)) := Lib.hid (fun w' h => ⟨h ⟨xb, 0, none⟩ _ (Nat.le_trans HSW.out HXS.out) (HX5.out.cell 0), h ⟨xb, 1, none⟩ _ (Nat.le_trans HSW.out HXS.out) (HX5.out.cell 1), h ⟨xb, 2, none⟩ _ (Nat.le_trans HSW.out HXS.out) (HX5.out.cell 2), h ⟨xb, 3, none⟩ _ (Nat.le_trans HSW.out HXS.out) (HX5.out.cell 3), h ⟨xb, 4, none⟩ _ (Nat.le_trans HSW.out HXS.out) (HX5.out.cell 4), h ⟨xb, 5, none⟩ _ (Nat.le_trans HSW.out HXS.out) (HX5.out.cell 5), h ⟨xb, 6, none⟩ _ (Nat.le_trans HSW.out HXS.out) (HX5.out.cell 6)⟩)
          have s1 := HSX.out _ (HiKeep.below (Below.refl w5.heap.size w5).drew)
          have s2 := HSX.out _ (HiKeep.below ((Below.refl w5.heap.size w5).alloc (Nat.le_refl _) (.cells #[.int .i64 ev.thread, .int .i64 ev.kind, .int .i64 ev.obj, .int .i64 ev.value, .int .i64 ev.site, .slice Ad ev.deps.length cd, .slice Af ev.frm.length cf] 53)).drew)
          have s3 := HSX.out _ (HiKeep.below ((Below.refl w5.heap.size w5).drew.alloc (Nat.le_refl _) (.cells #[.int .i64 ev.thread, .int .i64 ev.kind, .int .i64 ev.obj, .int .i64 ev.value, .int .i64 ev.site, .slice Ad ev.deps.length cd, .slice Af ev.frm.length cf] 53)))
          have HB5 : Hid (Below w.heap.size w w5) := HB5x
          go_upto_region 12 with fail
          refine wp_region_held_drew (S := fun w' => w'.cell? ⟨xb, 0, none⟩ = some (.int .i64 ev.thread) ∧ w'.cell? ⟨xb, 1, none⟩ = some (.int .i64 ev.kind) ∧ w'.cell? ⟨xb, 2, none⟩ = some (.int .i64 ev.obj) ∧ w'.cell? ⟨xb, 3, none⟩ = some (.int .i64 ev.value) ∧ w'.cell? ⟨xb, 4, none⟩ = some (.int .i64 ev.site) ∧ w'.cell? ⟨xb, 5, none⟩ = some (.slice Ad ev.deps.length cd) ∧ w'.cell? ⟨xb, 6, none⟩ = some (.slice Af ev.frm.length cf)) (by kernel_rfl) (by (try dsimp only); first | with_reducible exact s1 | with_reducible exact s2 | with_reducible exact s3 | with_reducible exact s8 | with_reducible exact s7) (fun hHeld => ?_)
          refine wpAnyH_take (i := 0) (v := ?v156) (by simp only [List.getElem?_toArray, List.getElem?_cons_zero]; rfl) (by kernel_rfl) (by kernel_rfl) (by kernel_rfl) (by exact fun _ _ _ h => h) (Or.inl ⟨by rfl, ?y156⟩) hHeld ?r156
          case y156 => (intro w hSw; (try dsimp only at hSw); go_simp <;> with_reducible rfl)
          (try simp only [Act.put, List.setIfInBounds_toArray, List.set_cons_zero, List.set_cons_succ])
          refine wpAnyH_take (i := 1) (v := ?v157) (by simp only [List.getElem?_toArray, List.getElem?_cons_succ, List.getElem?_cons_zero]; rfl) (by kernel_rfl) (by kernel_rfl) (by kernel_rfl) (by exact fun _ _ _ h => h) (Or.inl ⟨by rfl, ?y157⟩) hHeld ?r157
          case y157 => (intro w hSw; (try dsimp only at hSw); go_simp <;> with_reducible rfl)
          (try simp only [Act.put, List.setIfInBounds_toArray, List.set_cons_zero, List.set_cons_succ])
          refine wpAnyH_take (i := 2) (v := ?v158) (by simp only [List.getElem?_toArray, List.getElem?_cons_succ, List.getElem?_cons_zero]; rfl) (by kernel_rfl) (by kernel_rfl) (by kernel_rfl) (by exact fun _ _ _ h => h) (Or.inl ⟨by rfl, ?y158⟩) hHeld ?r158
          case y158 => (intro w hSw; (try dsimp only at hSw); go_simp <;> with_reducible rfl)
          (try simp only [Act.put, List.setIfInBounds_toArray, List.set_cons_zero, List.set_cons_succ])
          refine wpAnyH_take (i := 3) (v := ?v159) (by simp only [List.getElem?_toArray, List.getElem?_cons_succ, List.getElem?_cons_zero]; rfl) (by kernel_rfl) (by kernel_rfl) (by kernel_rfl) (by exact fun _ _ _ h => h) (Or.inl ⟨by rfl, ?y159⟩) hHeld ?r159
          case y159 => (intro w hSw; (try dsimp only at hSw); go_simp <;> with_reducible rfl)
          (try simp only [Act.put, List.setIfInBounds_toArray, List.set_cons_zero, List.set_cons_succ])
          refine wpAnyH_take (i := 5) (v := ?v160) (by simp only [List.getElem?_toArray, List.getElem?_cons_succ, List.getElem?_cons_zero]; rfl) (by kernel_rfl) (by kernel_rfl) (by kernel_rfl) (by exact fun _ _ _ h => h) (Or.inl ⟨by rfl, ?y160⟩) hHeld ?r160
          case y160 => (intro w hSw; (try dsimp only at hSw); go_simp <;> with_reducible rfl)
          (try simp only [Act.put, List.setIfInBounds_toArray, List.set_cons_zero, List.set_cons_succ])
          refine wpAnyH_ready (rs := [4, 6]) (by kernel_rfl) (by simp) ?_
          refine AllReadyH.cons (by simp only [List.getElem?_toArray, List.getElem?_cons_succ, List.getElem?_cons_zero]; rfl) (fun K hK => ?_) (AllReadyH.cons (by simp only [List.getElem?_toArray, List.getElem?_cons_succ, List.getElem?_cons_zero]; rfl) (fun K hK => ?_) AllReadyH.nil)
          · clear hHeld
            go_simp
            refine hK.out _ _ (by (try dsimp only); first | with_reducible exact s1 | with_reducible exact s2 | with_reducible exact s3 | with_reducible exact s8 | with_reducible exact s7) (fun hHeld => ?_)
            clear hK K
            (try simp only [Act.put, List.setIfInBounds_toArray, List.set_cons_zero, List.set_cons_succ])
            refine wpAnyH_ready (rs := [6]) (by kernel_rfl) (by simp) ?_
            refine AllReadyH.cons (by simp only [List.getElem?_toArray, List.getElem?_cons_succ, List.getElem?_cons_zero]; rfl) (fun K hK => ?_) AllReadyH.nil
            clear hHeld
            go_simp
            refine hK.out _ _ (by (try dsimp only); first | with_reducible exact s1 | with_reducible exact s2 | with_reducible exact s3 | with_reducible exact s8 | with_reducible exact s7) (fun hHeld => ?_)
            clear hK K
            (try simp only [Act.put, List.setIfInBounds_toArray, List.set_cons_zero, List.set_cons_succ])
            refine wpAnyH_ready (rs := [7]) (by kernel_rfl) (by simp) ?_
            refine AllReadyH.cons (by simp only [List.getElem?_toArray, List.getElem?_cons_succ, List.getElem?_cons_zero]; rfl) (fun K hK => ?_) AllReadyH.nil
            clear hHeld
            (refine step_app_own rfl (.tmp 55) (.tmp 57) 29 rfl base 53 iC _ 7 88 Tryd.underlying29 hiC hzC0 hzC1 hzC2 rfl (by decide) (v 6) (rowN t 6) (rowX t ds 6) (by first | rfl | simp [Act.eval]) HOW.out.drew ⟨w5.heap.size, 0, none⟩ 1 1 [.int .i64 ev.thread, .int .i64 ev.kind, .int .i64 ev.obj, .int .i64 ev.value, .int .i64 ev.site, .slice Ad ev.deps.length cd, .slice Af ev.frm.length cf] (by first | rfl | simp [Act.eval]) rfl HNW.out HON.out HM1.out HM2.out HM3.out ?_; intro v7 w7 hown hg hat; have hg1 : (w5.alloc (.cells #[.int .i64 ev.thread, .int .i64 ev.kind, .int .i64 ev.obj, .int .i64 ev.value, .int .i64 ev.site, .slice Ad ev.deps.length cd, .slice Af ev.frm.length cf] 53)).grownBy w7 (v 6).ownBlock := ⟨hg.os, hg.tape, hg.output, hg.size, hg.block⟩; obtain ⟨A7, c7, e7, -, -, -⟩ := owns_rd hown; subst e7; have HT8 := Lib.hid (HT5.out.push (i := 6) (it := (.event ev)) (d := (.slice Ad ev.deps.length cd, .slice Af ev.frm.length cf)) rfl hown hg1 hat (by intro e he; injection he with he; subst he; exact ⟨HDV2.out, HFV2.out⟩) HOK.out); have hb7 := (HT5.out.blk.alloc (.cells #[.int .i64 ev.thread, .int .i64 ev.kind, .int .i64 ev.obj, .int .i64 ev.value, .int .i64 ev.site, .slice Ad ev.deps.length cd, .slice Af ev.frm.length cf] 53)).grown hg1 (by intro e; have := HNV.out 6 (by omega) b e.symm; have := HBB.out; omega); have k7 := hb7.cell 6; have z7 := hb7.frozen 6; simp only [List.getElem?_toArray, List.getElem?_cons_zero, List.getElem?_cons_succ] at k7; have HB7 : Hid (Below b w w7) := Lib.hid (((HB5.out.mono (by have := HBB.out; omega)).alloc (by have := HBB.out; have := HB5.out.size; omega) _).grown hg1 (by have := HBB.out; have := HB5.out.size; simp; omega) (fun g e => by have := HNV.out 6 (by omega) g e; have := HBB.out; omega)); have hk7 : HiKeep N w5 w7 := (HiKeep.below ((Below.refl w5.heap.size w5).alloc (Nat.le_refl _) (.cells #[.int .i64 ev.thread, .int .i64 ev.kind, .int .i64 ev.obj, .int .i64 ev.value, .int .i64 ev.site, .slice Ad ev.deps.length cd, .slice Af ev.frm.length cf] 53))).trans (HiKeep.grown hg1 (fun g e => (HNV.out 6 (by omega) g e).2)); have s7 := HSX.out w7 hk7; have s8 := HSX.out _ (hk7.trans (HiKeep.grown (grownBy_set0 w7 b 6 (.slice A7 (rowN t 6 + 1) c7)) (fun g e => by injection e with e; have := HBB.out; omega))); clear hown hg hat hb7 hg1)
            refine hK.out _ _ (by (try dsimp only); first | with_reducible exact s1 | with_reducible exact s2 | with_reducible exact s3 | with_reducible exact s8 | with_reducible exact s7) (fun hHeld => ?_)
            clear hK K
            (try simp only [Act.put, List.setIfInBounds_toArray, List.set_cons_zero, List.set_cons_succ])
            refine wpAnyH_take (i := 8) (v := ?v161) (by simp only [List.getElem?_toArray, List.getElem?_cons_succ, List.getElem?_cons_zero]; rfl) (by kernel_rfl) (by kernel_rfl) (by kernel_rfl) (by exact fun _ _ _ h => h) (Or.inl ⟨by rfl, ?y161⟩) hHeld ?r161
            case y161 => (intro w hSw; (try dsimp only at hSw); go_simp <;> with_reducible rfl)
            (try simp only [Act.put, List.setIfInBounds_toArray, List.set_cons_zero, List.set_cons_succ])
            refine wpAnyH_take (i := 9) (v := ?v162) (by simp only [List.getElem?_toArray, List.getElem?_cons_succ, List.getElem?_cons_zero]; rfl) (by kernel_rfl) (by kernel_rfl) (by kernel_rfl) (by exact fun _ _ _ h => h) (Or.inl ⟨by rfl, ?y162⟩) hHeld ?r162
            case y162 => (intro w hSw; (try dsimp only at hSw); go_simp <;> with_reducible rfl)
            (try simp only [Act.put, List.setIfInBounds_toArray, List.set_cons_zero, List.set_cons_succ])
            refine wpAnyH_ready (rs := [10]) (by kernel_rfl) (by simp) ?_
            refine AllReadyH.cons (by simp only [List.getElem?_toArray, List.getElem?_cons_succ, List.getElem?_cons_zero]; rfl) (fun K hK => ?_) AllReadyH.nil
            clear hHeld
            go_simp
            refine hK.out _ _ (by (try dsimp only); first | with_reducible exact s1 | with_reducible exact s2 | with_reducible exact s3 | with_reducible exact s8 | with_reducible exact s7) (fun hHeld => ?_)
            clear hK K
            (try simp only [Act.put, List.setIfInBounds_toArray, List.set_cons_zero, List.set_cons_succ])
            clear hHeld
            refine wpAnyH_done (by kernel_rfl) ?_ _
            have HB8 := Lib.hid (HB7.out.setCell (Nat.le_refl b) (.slice A7 (rowN t 6 + 1) c7) (p := ⟨b, 6, none⟩))
            clear HB7 k7 z7 hk7 s1 s2 s3 s7 s8 r0 ra HSX
            generalize w7.setCell ⟨b, 6, none⟩ (.slice A7 (rowN t 6 + 1) c7) = w8 at *
            go_wp2_with fail
            go_ret
            exact radd_yes HB8.out HITM.out (by simp [Item.group]) HT8.out
          · clear hHeld
            go_simp
            refine hK.out _ _ (by (try dsimp only); first | with_reducible exact s1 | with_reducible exact s2 | with_reducible exact s3 | with_reducible exact s8 | with_reducible exact s7) (fun hHeld => ?_)
            clear hK K
            (try simp only [Act.put, List.setIfInBounds_toArray, List.set_cons_zero, List.set_cons_succ])
            refine wpAnyH_ready (rs := [4]) (by kernel_rfl) (by simp) ?_
            refine AllReadyH.cons (by simp only [List.getElem?_toArray, List.getElem?_cons_succ, List.getElem?_cons_zero]; rfl) (fun K hK => ?_) AllReadyH.nil
            clear hHeld
            go_simp
            refine hK.out _ _ (by (try dsimp only); first | with_reducible exact s1 | with_reducible exact s2 | with_reducible exact s3 | with_reducible exact s8 | with_reducible exact s7) (fun hHeld => ?_)
            clear hK K
            (try simp only [Act.put, List.setIfInBounds_toArray, List.set_cons_zero, List.set_cons_succ])
            refine wpAnyH_ready (rs := [7]) (by kernel_rfl) (by simp) ?_
            refine AllReadyH.cons (by simp only [List.getElem?_toArray, List.getElem?_cons_succ, List.getElem?_cons_zero]; rfl) (fun K hK => ?_) AllReadyH.nil
            clear hHeld
            (refine step_app_own rfl (.tmp 55) (.tmp 57) 29 rfl base 53 iC _ 7 88 Tryd.underlying29 hiC hzC0 hzC1 hzC2 rfl (by decide) (v 6) (rowN t 6) (rowX t ds 6) (by first | rfl | simp [Act.eval]) HOW.out.drew ⟨w5.heap.size, 0, none⟩ 1 1 [.int .i64 ev.thread, .int .i64 ev.kind, .int .i64 ev.obj, .int .i64 ev.value, .int .i64 ev.site, .slice Ad ev.deps.length cd, .slice Af ev.frm.length cf] (by first | rfl | simp [Act.eval]) rfl HNW.out HON.out HM1.out HM2.out HM3.out ?_; intro v7 w7 hown hg hat; have hg1 : (w5.alloc (.cells #[.int .i64 ev.thread, .int .i64 ev.kind, .int .i64 ev.obj, .int .i64 ev.value, .int .i64 ev.site, .slice Ad ev.deps.length cd, .slice Af ev.frm.length cf] 53)).grownBy w7 (v 6).ownBlock := ⟨hg.os, hg.tape, hg.output, hg.size, hg.block⟩; obtain ⟨A7, c7, e7, -, -, -⟩ := owns_rd hown; subst e7; have HT8 := Lib.hid (HT5.out.push (i := 6) (it := (.event ev)) (d := (.slice Ad ev.deps.length cd, .slice Af ev.frm.length cf)) rfl hown hg1 hat (by intro e he; injection he with he; subst he; exact ⟨HDV2.out, HFV2.out⟩) HOK.out); have hb7 := (HT5.out.blk.alloc (.cells #[.int .i64 ev.thread, .int .i64 ev.kind, .int .i64 ev.obj, .int .i64 ev.value, .int .i64 ev.site, .slice Ad ev.deps.length cd, .slice Af ev.frm.length cf] 53)).grown hg1 (by intro e; have := HNV.out 6 (by omega) b e.symm; have := HBB.out; omega); have k7 := hb7.cell 6; have z7 := hb7.frozen 6; simp only [List.getElem?_toArray, List.getElem?_cons_zero, List.getElem?_cons_succ] at k7; have HB7 : Hid (Below b w w7) := Lib.hid (((HB5.out.mono (by have := HBB.out; omega)).alloc (by have := HBB.out; have := HB5.out.size; omega) _).grown hg1 (by have := HBB.out; have := HB5.out.size; simp; omega) (fun g e => by have := HNV.out 6 (by omega) g e; have := HBB.out; omega)); have hk7 : HiKeep N w5 w7 := (HiKeep.below ((Below.refl w5.heap.size w5).alloc (Nat.le_refl _) (.cells #[.int .i64 ev.thread, .int .i64 ev.kind, .int .i64 ev.obj, .int .i64 ev.value, .int .i64 ev.site, .slice Ad ev.deps.length cd, .slice Af ev.frm.length cf] 53))).trans (HiKeep.grown hg1 (fun g e => (HNV.out 6 (by omega) g e).2)); have s7 := HSX.out w7 hk7; have s8 := HSX.out _ (hk7.trans (HiKeep.grown (grownBy_set0 w7 b 6 (.slice A7 (rowN t 6 + 1) c7)) (fun g e => by injection e with e; have := HBB.out; omega))); clear hown hg hat hb7 hg1)
            refine hK.out _ _ (by (try dsimp only); first | with_reducible exact s1 | with_reducible exact s2 | with_reducible exact s3 | with_reducible exact s8 | with_reducible exact s7) (fun hHeld => ?_)
            clear hK K
            (try simp only [Act.put, List.setIfInBounds_toArray, List.set_cons_zero, List.set_cons_succ])
            refine wpAnyH_take (i := 8) (v := ?v163) (by simp only [List.getElem?_toArray, List.getElem?_cons_succ, List.getElem?_cons_zero]; rfl) (by kernel_rfl) (by kernel_rfl) (by kernel_rfl) (by exact fun _ _ _ h => h) (Or.inl ⟨by rfl, ?y163⟩) hHeld ?r163
            case y163 => (intro w hSw; (try dsimp only at hSw); go_simp <;> with_reducible rfl)
            (try simp only [Act.put, List.setIfInBounds_toArray, List.set_cons_zero, List.set_cons_succ])
            refine wpAnyH_take (i := 9) (v := ?v164) (by simp only [List.getElem?_toArray, List.getElem?_cons_succ, List.getElem?_cons_zero]; rfl) (by kernel_rfl) (by kernel_rfl) (by kernel_rfl) (by exact fun _ _ _ h => h) (Or.inl ⟨by rfl, ?y164⟩) hHeld ?r164
            case y164 => (intro w hSw; (try dsimp only at hSw); go_simp <;> with_reducible rfl)
            (try simp only [Act.put, List.setIfInBounds_toArray, List.set_cons_zero, List.set_cons_succ])
            refine wpAnyH_ready (rs := [10]) (by kernel_rfl) (by simp) ?_
            refine AllReadyH.cons (by simp only [List.getElem?_toArray, List.getElem?_cons_succ, List.getElem?_cons_zero]; rfl) (fun K hK => ?_) AllReadyH.nil
            clear hHeld
            go_simp
            refine hK.out _ _ (by (try dsimp only); first | with_reducible exact s1 | with_reducible exact s2 | with_reducible exact s3 | with_reducible exact s8 | with_reducible exact s7) (fun hHeld => ?_)
            clear hK K
            (try simp only [Act.put, List.setIfInBounds_toArray, List.set_cons_zero, List.set_cons_succ])
            clear hHeld
            refine wpAnyH_done (by kernel_rfl) ?_ _
            have HB8 := Lib.hid (HB7.out.setCell (Nat.le_refl b) (.slice A7 (rowN t 6 + 1) c7) (p := ⟨b, 6, none⟩))
            clear HB7 k7 z7 hk7 s1 s2 s3 s7 s8 r0 ra HSX
            generalize w7.setCell ⟨b, 6, none⟩ (.slice A7 (rowN t 6 + 1) c7) = w8 at *
            go_wp2_with fail
            go_ret
            exact radd_yes HB8.out HITM.out (by simp [Item.group]) HT8.out
      | some ns =>
        obtain ⟨A2, c2, rfl, ho2, hb2⟩ := longs_yes hr2 hmm
        have HB2 := Lib.hid (HB1.out.trans (hb2.mono HB1.out.size))
        clear hr2 hmm hb2 h0a ho2 hsl2
        have h0b := HCELL.out w2 HB2.out 0 wEvent rfl
        rw [Nat.add_zero] at h0b
        unfold wEvent at h0b
        have hwl : (wEvent :: ps).length = n := (show ps.length + 1 = n from HN.out.symm)
        have HEV := Lib.hid (revent_any (some ⟨ab, off, none⟩) c (wEvent :: ps) w2 (by rw [hwl]; exact HTX.out.keep HB2.out) (HP.out.below HB2.out) HL.out (by have := HPN.out; simp; omega))
        rw [hwl] at HEV
        clear hwl
        go_wp2_with fail
        refine HEV.out.mono ?_
        rintro e w4 ⟨hb4, ev, dv, fv, okb, rfl, hok, hdv, hfv, hy, hno⟩
        rw [List.tail_cons] at hy hno
        obtain ⟨Ad, cd, rfl, -⟩ := id hdv
        obtain ⟨Af, cf, rfl, -⟩ := id hfv
        have HB4 := Lib.hid (HB2.out.trans (hb4.mono HB2.out.size))
        have HSW : Hid (N ≤ w2.heap.size) := Lib.hid (by have := HBB.out; have := HB2.out.size; omega)
        have HOK := Lib.hid hok
        have HDV := Lib.hid hdv
        have HFV := Lib.hid hfv
        have HY := Lib.hid hy
        have HNO := Lib.hid hno
        have HSZ4 : Hid (w2.heap.size ≤ w4.heap.size) := Lib.hid hb4.size
        clear hb4 hok hdv hfv hy hno HEV h0b
        unfold Evn.val
        have hb5 : Below w4.heap.size w4 (w4.alloc (.cells #[.int .i64 ev.thread, .int .i64 ev.kind, .int .i64 ev.obj, .int .i64 ev.value, .int .i64 ev.site, .slice Ad ev.deps.length cd, .slice Af ev.frm.length cf] 53)) := (Below.refl _ _).alloc (Nat.le_refl _) _
        have HX5 := Lib.hid (Blk.new w4 53 #[.int .i64 ev.thread, .int .i64 ev.kind, .int .i64 ev.obj, .int .i64 ev.value, .int .i64 ev.site, .slice Ad ev.deps.length cd, .slice Af ev.frm.length cf])
        have HB5x : Hid (Below w.heap.size w (w4.alloc (.cells #[.int .i64 ev.thread, .int .i64 ev.kind, .int .i64 ev.obj, .int .i64 ev.value, .int .i64 ev.site, .slice Ad ev.deps.length cd, .slice Af ev.frm.length cf] 53))) := Lib.hid (HB4.out.trans (hb5.mono HB4.out.size))
        have HXS : Hid (w2.heap.size ≤ w4.heap.size) := Lib.hid (by have := HB4.out.size; exact HSZ4.out)
        have HDV5 := Lib.hid (HDV.out.keep hb5)
        have HFV5 := Lib.hid (HFV.out.keep hb5)
        clear hb5
        go_upto_region 11 with fail
        generalize hw5 : w4.alloc (.cells #[.int .i64 ev.thread, .int .i64 ev.kind, .int .i64 ev.obj, .int .i64 ev.value, .int .i64 ev.site, .slice Ad ev.deps.length cd, .slice Af ev.frm.length cf] 53) = w5 at *
        generalize hxb : w4.heap.size = xb at *
        clear hw5 hxb HDV HFV
        cases okb with
        | false =>
          have HNO2 : Hid (itemI wEvent ps = none) := Lib.hid (by rw [itemI_event]; cases e : eventI ps with | none => rfl | some x => exact absurd (HY.out x e).1 (by simp))
          go_wp2_with fail
          go_ret
          exact radd_no HB5x.out (by have := HBB.out; omega) HNO2.out
        | true =>
          have HITM : Hid (itemI wEvent ps = some (.event ev)) := Lib.hid (by rw [itemI_event]; cases e : eventI ps with | none => exact absurd (HNO.out e) (by simp) | some x => rw [(HY.out x e).2]; rfl)
          have HDV2 : Hid (IntsO w5 (EvP base v) (.slice Ad ev.deps.length cd) ev.deps) := Lib.hid (HDV5.out.mono (fun g _ hg => ⟨by have := HBB.out; have := HSW.out; omega, fun i hi e => by have := (HNV.out i hi g e).2; have := HSW.out; omega⟩))
          have HFV2 : Hid (IntsO w5 (EvP base v) (.slice Af ev.frm.length cf) ev.frm) := Lib.hid (HFV5.out.mono (fun g _ hg => ⟨by have := HBB.out; have := HSW.out; omega, fun i hi e => by have := (HNV.out i hi g e).2; have := HSW.out; omega⟩))
          have HT5 := Lib.hid (HTK.out w5 HB5x.out)
          have HNW := Lib.hid (cells_at w5 53 [.int .i64 ev.thread, .int .i64 ev.kind, .int .i64 ev.obj, .int .i64 ev.value, .int .i64 ev.site, .slice Ad ev.deps.length cd, .slice Af ev.frm.length cf] rfl)
          have HON : Hid (∀ u ∈ ([.int .i64 ev.thread, .int .i64 ev.kind, .int .i64 ev.obj, .int .i64 ev.value, .int .i64 ev.site, .slice Ad ev.deps.length cd, .slice Af ev.frm.length cf] : List Value), u.oneCell' = true) := Lib.hid (by intro u hu; simp at hu; rcases hu with rfl | rfl | rfl | rfl | rfl | rfl | rfl <;> rfl)
          have HM1 : Hid (rowN t 6 + 1 ≤ maxLen) := (by refine Lib.hid ?_; have := HRN.out 6; unfold maxLen; omega)
          have HM2 : Hid ((rowN t 6 + 1) * 88 ≤ 140737488355328) := (by refine Lib.hid ?_; have := HRN.out 6; omega)
          have HM3 : Hid (base ≤ (w5.alloc (.cells #[.int .i64 ev.thread, .int .i64 ev.kind, .int .i64 ev.obj, .int .i64 ev.value, .int .i64 ev.site, .slice Ad ev.deps.length cd, .slice Af ev.frm.length cf] 53)).heap.size) := (by refine Lib.hid ?_; have := HT5.out.le; simp; omega)
          have HOW := Lib.hid ((HT5.out.row 6 (by omega)).alloc (.cells #[.int .i64 ev.thread, .int .i64 ev.kind, .int .i64 ev.obj, .int .i64 ev.value, .int .i64 ev.site, .slice Ad ev.deps.length cd, .slice Af ev.frm.length cf] 53))
          have r0 := HT5.out.blk.cell 6
          have ra := (HT5.out.blk.alloc (.cells #[.int .i64 ev.thread, .int .i64 ev.kind, .int .i64 ev.obj, .int .i64 ev.value, .int .i64 ev.site, .slice Ad ev.deps.length cd, .slice Af ev.frm.length cf] 53)).cell 6
          simp only [List.getElem?_toArray, List.getElem?_cons_zero, List.getElem?_cons_succ] at r0 ra
          have HSX : Hid (∀ w', HiKeep N w5 w' → w'.cell? ⟨xb, 0, none⟩ = some (.int .i64 ev.thread) ∧ w'.cell? ⟨xb, 1, none⟩ = some (.int .i64 ev.kind) ∧ w'.cell? ⟨xb, 2, none⟩ = some (.int .i64 ev.obj) ∧ w'.cell? ⟨xb, 3, none⟩ = some (.int .i64 ev.value) ∧ w'.cell? ⟨xb, 4, none⟩ = some (.int .i64 ev.site) ∧ w'.cell? ⟨xb, 5, none⟩ = some (.slice Ad ev.deps.length cd) ∧ w'.cell? ⟨xb, 6, none⟩ = some (.slice Af ev.frm.length cf)) := Lib.hid (fun w' h => ⟨h ⟨xb, 0, none⟩ _ (Nat.le_trans HSW.out HXS.out) (HX5.out.cell 0), h ⟨xb, 1, none⟩ _ (Nat.le_trans HSW.out HXS.out) (HX5.out.cell 1), h ⟨xb, 2, none⟩ _ (Nat.le_trans HSW.out HXS.out) (HX5.out.cell 2), h ⟨xb, 3, none⟩ _ (Nat.le_trans HSW.out HXS.out) (HX5.out.cell 3), h ⟨xb, 4, none⟩ _ (Nat.le_trans HSW.out HXS.out) (HX5.out.cell 4), h ⟨xb, 5, none⟩ _ (Nat.le_trans HSW.out HXS.out) (HX5.out.cell 5), h ⟨xb, 6, none⟩ _ (Nat.le_trans HSW.out HXS.out) (HX5.out.cell 6)⟩)
          have s1 := HSX.out _ (HiKeep.below (Below.refl w5.heap.size w5).drew)
          have s2 := HSX.out _ (HiKeep.below ((Below.refl w5.heap.size w5).alloc (Nat.le_refl _) (.cells #[.int .i64 ev.thread, .int .i64 ev.kind, .int .i64 ev.obj, .int .i64 ev.value, .int .i64 ev.site, .slice Ad ev.deps.length cd, .slice Af ev.frm.length cf] 53)).drew)
          have s3 := HSX.out _ (HiKeep.below ((Below.refl w5.heap.size w5).drew.alloc (Nat.le_refl _) (.cells #[.int .i64 ev.thread, .int .i64 ev.kind, .int .i64 ev.obj, .int .i64 ev.value, .int .i64 ev.site, .slice Ad ev.deps.length cd, .slice Af ev.frm.length cf] 53)))
          have HB5 : Hid (Below w.heap.size w w5) := HB5x
          go_upto_region 12 with fail
          refine wp_region_held_drew (S := fun w' => w'.cell? ⟨xb, 0, none⟩ = some (.int .i64 ev.thread) ∧ w'.cell? ⟨xb, 1, none⟩ = some (.int .i64 ev.kind) ∧ w'.cell? ⟨xb, 2, none⟩ = some (.int .i64 ev.obj) ∧ w'.cell? ⟨xb, 3, none⟩ = some (.int .i64 ev.value) ∧ w'.cell? ⟨xb, 4, none⟩ = some (.int .i64 ev.site) ∧ w'.cell? ⟨xb, 5, none⟩ = some (.slice Ad ev.deps.length cd) ∧ w'.cell? ⟨xb, 6, none⟩ = some (.slice Af ev.frm.length cf)) (by kernel_rfl) (by (try dsimp only); first | with_reducible exact s1 | with_reducible exact s2 | with_reducible exact s3 | with_reducible exact s8 | with_reducible exact s7) (fun hHeld => ?_)
          refine wpAnyH_take (i := 0) (v := ?v165) (by simp only [List.getElem?_toArray, List.getElem?_cons_zero]; rfl) (by kernel_rfl) (by kernel_rfl) (by kernel_rfl) (by exact fun _ _ _ h => h) (Or.inl ⟨by rfl, ?y165⟩) hHeld ?r165
          case y165 => (intro w hSw; (try dsimp only at hSw); go_simp <;> with_reducible rfl)
          (try simp only [Act.put, List.setIfInBounds_toArray, List.set_cons_zero, List.set_cons_succ])
          refine wpAnyH_take (i := 1) (v := ?v166) (by simp only [List.getElem?_toArray, List.getElem?_cons_succ, List.getElem?_cons_zero]; rfl) (by kernel_rfl) (by kernel_rfl) (by kernel_rfl) (by exact fun _ _ _ h => h) (Or.inl ⟨by rfl, ?y166⟩) hHeld ?r166
          case y166 => (intro w hSw; (try dsimp only at hSw); go_simp <;> with_reducible rfl)
          (try simp only [Act.put, List.setIfInBounds_toArray, List.set_cons_zero, List.set_cons_succ])
          refine wpAnyH_take (i := 2) (v := ?v167) (by simp only [List.getElem?_toArray, List.getElem?_cons_succ, List.getElem?_cons_zero]; rfl) (by kernel_rfl) (by kernel_rfl) (by kernel_rfl) (by exact fun _ _ _ h => h) (Or.inl ⟨by rfl, ?y167⟩) hHeld ?r167
          case y167 => (intro w hSw; (try dsimp only at hSw); go_simp <;> with_reducible rfl)
          (try simp only [Act.put, List.setIfInBounds_toArray, List.set_cons_zero, List.set_cons_succ])
          refine wpAnyH_take (i := 3) (v := ?v168) (by simp only [List.getElem?_toArray, List.getElem?_cons_succ, List.getElem?_cons_zero]; rfl) (by kernel_rfl) (by kernel_rfl) (by kernel_rfl) (by exact fun _ _ _ h => h) (Or.inl ⟨by rfl, ?y168⟩) hHeld ?r168
          case y168 => (intro w hSw; (try dsimp only at hSw); go_simp <;> with_reducible rfl)
          (try simp only [Act.put, List.setIfInBounds_toArray, List.set_cons_zero, List.set_cons_succ])
          refine wpAnyH_take (i := 5) (v := ?v169) (by simp only [List.getElem?_toArray, List.getElem?_cons_succ, List.getElem?_cons_zero]; rfl) (by kernel_rfl) (by kernel_rfl) (by kernel_rfl) (by exact fun _ _ _ h => h) (Or.inl ⟨by rfl, ?y169⟩) hHeld ?r169
          case y169 => (intro w hSw; (try dsimp only at hSw); go_simp <;> with_reducible rfl)
          (try simp only [Act.put, List.setIfInBounds_toArray, List.set_cons_zero, List.set_cons_succ])
          refine wpAnyH_ready (rs := [4, 6]) (by kernel_rfl) (by simp) ?_
          refine AllReadyH.cons (by simp only [List.getElem?_toArray, List.getElem?_cons_succ, List.getElem?_cons_zero]; rfl) (fun K hK => ?_) (AllReadyH.cons (by simp only [List.getElem?_toArray, List.getElem?_cons_succ, List.getElem?_cons_zero]; rfl) (fun K hK => ?_) AllReadyH.nil)
          · clear hHeld
            go_simp
            refine hK.out _ _ (by (try dsimp only); first | with_reducible exact s1 | with_reducible exact s2 | with_reducible exact s3 | with_reducible exact s8 | with_reducible exact s7) (fun hHeld => ?_)
            clear hK K
            (try simp only [Act.put, List.setIfInBounds_toArray, List.set_cons_zero, List.set_cons_succ])
            refine wpAnyH_ready (rs := [6]) (by kernel_rfl) (by simp) ?_
            refine AllReadyH.cons (by simp only [List.getElem?_toArray, List.getElem?_cons_succ, List.getElem?_cons_zero]; rfl) (fun K hK => ?_) AllReadyH.nil
            clear hHeld
            go_simp
            refine hK.out _ _ (by (try dsimp only); first | with_reducible exact s1 | with_reducible exact s2 | with_reducible exact s3 | with_reducible exact s8 | with_reducible exact s7) (fun hHeld => ?_)
            clear hK K
            (try simp only [Act.put, List.setIfInBounds_toArray, List.set_cons_zero, List.set_cons_succ])
            refine wpAnyH_ready (rs := [7]) (by kernel_rfl) (by simp) ?_
            refine AllReadyH.cons (by simp only [List.getElem?_toArray, List.getElem?_cons_succ, List.getElem?_cons_zero]; rfl) (fun K hK => ?_) AllReadyH.nil
            clear hHeld
            (refine step_app_own rfl (.tmp 55) (.tmp 57) 29 rfl base 53 iC _ 7 88 Tryd.underlying29 hiC hzC0 hzC1 hzC2 rfl (by decide) (v 6) (rowN t 6) (rowX t ds 6) (by first | rfl | simp [Act.eval]) HOW.out.drew ⟨w5.heap.size, 0, none⟩ 1 1 [.int .i64 ev.thread, .int .i64 ev.kind, .int .i64 ev.obj, .int .i64 ev.value, .int .i64 ev.site, .slice Ad ev.deps.length cd, .slice Af ev.frm.length cf] (by first | rfl | simp [Act.eval]) rfl HNW.out HON.out HM1.out HM2.out HM3.out ?_; intro v7 w7 hown hg hat; have hg1 : (w5.alloc (.cells #[.int .i64 ev.thread, .int .i64 ev.kind, .int .i64 ev.obj, .int .i64 ev.value, .int .i64 ev.site, .slice Ad ev.deps.length cd, .slice Af ev.frm.length cf] 53)).grownBy w7 (v 6).ownBlock := ⟨hg.os, hg.tape, hg.output, hg.size, hg.block⟩; obtain ⟨A7, c7, e7, -, -, -⟩ := owns_rd hown; subst e7; have HT8 := Lib.hid (HT5.out.push (i := 6) (it := (.event ev)) (d := (.slice Ad ev.deps.length cd, .slice Af ev.frm.length cf)) rfl hown hg1 hat (by intro e he; injection he with he; subst he; exact ⟨HDV2.out, HFV2.out⟩) HOK.out); have hb7 := (HT5.out.blk.alloc (.cells #[.int .i64 ev.thread, .int .i64 ev.kind, .int .i64 ev.obj, .int .i64 ev.value, .int .i64 ev.site, .slice Ad ev.deps.length cd, .slice Af ev.frm.length cf] 53)).grown hg1 (by intro e; have := HNV.out 6 (by omega) b e.symm; have := HBB.out; omega); have k7 := hb7.cell 6; have z7 := hb7.frozen 6; simp only [List.getElem?_toArray, List.getElem?_cons_zero, List.getElem?_cons_succ] at k7; have HB7 : Hid (Below b w w7) := Lib.hid (((HB5.out.mono (by have := HBB.out; omega)).alloc (by have := HBB.out; have := HB5.out.size; omega) _).grown hg1 (by have := HBB.out; have := HB5.out.size; simp; omega) (fun g e => by have := HNV.out 6 (by omega) g e; have := HBB.out; omega)); have hk7 : HiKeep N w5 w7 := (HiKeep.below ((Below.refl w5.heap.size w5).alloc (Nat.le_refl _) (.cells #[.int .i64 ev.thread, .int .i64 ev.kind, .int .i64 ev.obj, .int .i64 ev.value, .int .i64 ev.site, .slice Ad ev.deps.length cd, .slice Af ev.frm.length cf] 53))).trans (HiKeep.grown hg1 (fun g e => (HNV.out 6 (by omega) g e).2)); have s7 := HSX.out w7 hk7; have s8 := HSX.out _ (hk7.trans (HiKeep.grown (grownBy_set0 w7 b 6 (.slice A7 (rowN t 6 + 1) c7)) (fun g e => by injection e with e; have := HBB.out; omega))); clear hown hg hat hb7 hg1)
            refine hK.out _ _ (by (try dsimp only); first | with_reducible exact s1 | with_reducible exact s2 | with_reducible exact s3 | with_reducible exact s8 | with_reducible exact s7) (fun hHeld => ?_)
            clear hK K
            (try simp only [Act.put, List.setIfInBounds_toArray, List.set_cons_zero, List.set_cons_succ])
            refine wpAnyH_take (i := 8) (v := ?v170) (by simp only [List.getElem?_toArray, List.getElem?_cons_succ, List.getElem?_cons_zero]; rfl) (by kernel_rfl) (by kernel_rfl) (by kernel_rfl) (by exact fun _ _ _ h => h) (Or.inl ⟨by rfl, ?y170⟩) hHeld ?r170
            case y170 => (intro w hSw; (try dsimp only at hSw); go_simp <;> with_reducible rfl)
            (try simp only [Act.put, List.setIfInBounds_toArray, List.set_cons_zero, List.set_cons_succ])
            refine wpAnyH_take (i := 9) (v := ?v171) (by simp only [List.getElem?_toArray, List.getElem?_cons_succ, List.getElem?_cons_zero]; rfl) (by kernel_rfl) (by kernel_rfl) (by kernel_rfl) (by exact fun _ _ _ h => h) (Or.inl ⟨by rfl, ?y171⟩) hHeld ?r171
            case y171 => (intro w hSw; (try dsimp only at hSw); go_simp <;> with_reducible rfl)
            (try simp only [Act.put, List.setIfInBounds_toArray, List.set_cons_zero, List.set_cons_succ])
            refine wpAnyH_ready (rs := [10]) (by kernel_rfl) (by simp) ?_
            refine AllReadyH.cons (by simp only [List.getElem?_toArray, List.getElem?_cons_succ, List.getElem?_cons_zero]; rfl) (fun K hK => ?_) AllReadyH.nil
            clear hHeld
            go_simp
            refine hK.out _ _ (by (try dsimp only); first | with_reducible exact s1 | with_reducible exact s2 | with_reducible exact s3 | with_reducible exact s8 | with_reducible exact s7) (fun hHeld => ?_)
            clear hK K
            (try simp only [Act.put, List.setIfInBounds_toArray, List.set_cons_zero, List.set_cons_succ])
            clear hHeld
            refine wpAnyH_done (by kernel_rfl) ?_ _
            have HB8 := Lib.hid (HB7.out.setCell (Nat.le_refl b) (.slice A7 (rowN t 6 + 1) c7) (p := ⟨b, 6, none⟩))
            clear HB7 k7 z7 hk7 s1 s2 s3 s7 s8 r0 ra HSX
            generalize w7.setCell ⟨b, 6, none⟩ (.slice A7 (rowN t 6 + 1) c7) = w8 at *
            go_wp2_with fail
            go_ret
            exact radd_yes HB8.out HITM.out (by simp [Item.group]) HT8.out
          · clear hHeld
            go_simp
            refine hK.out _ _ (by (try dsimp only); first | with_reducible exact s1 | with_reducible exact s2 | with_reducible exact s3 | with_reducible exact s8 | with_reducible exact s7) (fun hHeld => ?_)
            clear hK K
            (try simp only [Act.put, List.setIfInBounds_toArray, List.set_cons_zero, List.set_cons_succ])
            refine wpAnyH_ready (rs := [4]) (by kernel_rfl) (by simp) ?_
            refine AllReadyH.cons (by simp only [List.getElem?_toArray, List.getElem?_cons_succ, List.getElem?_cons_zero]; rfl) (fun K hK => ?_) AllReadyH.nil
            clear hHeld
            go_simp
            refine hK.out _ _ (by (try dsimp only); first | with_reducible exact s1 | with_reducible exact s2 | with_reducible exact s3 | with_reducible exact s8 | with_reducible exact s7) (fun hHeld => ?_)
            clear hK K
            (try simp only [Act.put, List.setIfInBounds_toArray, List.set_cons_zero, List.set_cons_succ])
            refine wpAnyH_ready (rs := [7]) (by kernel_rfl) (by simp) ?_
            refine AllReadyH.cons (by simp only [List.getElem?_toArray, List.getElem?_cons_succ, List.getElem?_cons_zero]; rfl) (fun K hK => ?_) AllReadyH.nil
            clear hHeld
            (refine step_app_own rfl (.tmp 55) (.tmp 57) 29 rfl base 53 iC _ 7 88 Tryd.underlying29 hiC hzC0 hzC1 hzC2 rfl (by decide) (v 6) (rowN t 6) (rowX t ds 6) (by first | rfl | simp [Act.eval]) HOW.out.drew ⟨w5.heap.size, 0, none⟩ 1 1 [.int .i64 ev.thread, .int .i64 ev.kind, .int .i64 ev.obj, .int .i64 ev.value, .int .i64 ev.site, .slice Ad ev.deps.length cd, .slice Af ev.frm.length cf] (by first | rfl | simp [Act.eval]) rfl HNW.out HON.out HM1.out HM2.out HM3.out ?_; intro v7 w7 hown hg hat; have hg1 : (w5.alloc (.cells #[.int .i64 ev.thread, .int .i64 ev.kind, .int .i64 ev.obj, .int .i64 ev.value, .int .i64 ev.site, .slice Ad ev.deps.length cd, .slice Af ev.frm.length cf] 53)).grownBy w7 (v 6).ownBlock := ⟨hg.os, hg.tape, hg.output, hg.size, hg.block⟩; obtain ⟨A7, c7, e7, -, -, -⟩ := owns_rd hown; subst e7; have HT8 := Lib.hid (HT5.out.push (i := 6) (it := (.event ev)) (d := (.slice Ad ev.deps.length cd, .slice Af ev.frm.length cf)) rfl hown hg1 hat (by intro e he; injection he with he; subst he; exact ⟨HDV2.out, HFV2.out⟩) HOK.out); have hb7 := (HT5.out.blk.alloc (.cells #[.int .i64 ev.thread, .int .i64 ev.kind, .int .i64 ev.obj, .int .i64 ev.value, .int .i64 ev.site, .slice Ad ev.deps.length cd, .slice Af ev.frm.length cf] 53)).grown hg1 (by intro e; have := HNV.out 6 (by omega) b e.symm; have := HBB.out; omega); have k7 := hb7.cell 6; have z7 := hb7.frozen 6; simp only [List.getElem?_toArray, List.getElem?_cons_zero, List.getElem?_cons_succ] at k7; have HB7 : Hid (Below b w w7) := Lib.hid (((HB5.out.mono (by have := HBB.out; omega)).alloc (by have := HBB.out; have := HB5.out.size; omega) _).grown hg1 (by have := HBB.out; have := HB5.out.size; simp; omega) (fun g e => by have := HNV.out 6 (by omega) g e; have := HBB.out; omega)); have hk7 : HiKeep N w5 w7 := (HiKeep.below ((Below.refl w5.heap.size w5).alloc (Nat.le_refl _) (.cells #[.int .i64 ev.thread, .int .i64 ev.kind, .int .i64 ev.obj, .int .i64 ev.value, .int .i64 ev.site, .slice Ad ev.deps.length cd, .slice Af ev.frm.length cf] 53))).trans (HiKeep.grown hg1 (fun g e => (HNV.out 6 (by omega) g e).2)); have s7 := HSX.out w7 hk7; have s8 := HSX.out _ (hk7.trans (HiKeep.grown (grownBy_set0 w7 b 6 (.slice A7 (rowN t 6 + 1) c7)) (fun g e => by injection e with e; have := HBB.out; omega))); clear hown hg hat hb7 hg1)
            refine hK.out _ _ (by (try dsimp only); first | with_reducible exact s1 | with_reducible exact s2 | with_reducible exact s3 | with_reducible exact s8 | with_reducible exact s7) (fun hHeld => ?_)
            clear hK K
            (try simp only [Act.put, List.setIfInBounds_toArray, List.set_cons_zero, List.set_cons_succ])
            refine wpAnyH_take (i := 8) (v := ?v172) (by simp only [List.getElem?_toArray, List.getElem?_cons_succ, List.getElem?_cons_zero]; rfl) (by kernel_rfl) (by kernel_rfl) (by kernel_rfl) (by exact fun _ _ _ h => h) (Or.inl ⟨by rfl, ?y172⟩) hHeld ?r172
            case y172 => (intro w hSw; (try dsimp only at hSw); go_simp <;> with_reducible rfl)
            (try simp only [Act.put, List.setIfInBounds_toArray, List.set_cons_zero, List.set_cons_succ])
            refine wpAnyH_take (i := 9) (v := ?v173) (by simp only [List.getElem?_toArray, List.getElem?_cons_succ, List.getElem?_cons_zero]; rfl) (by kernel_rfl) (by kernel_rfl) (by kernel_rfl) (by exact fun _ _ _ h => h) (Or.inl ⟨by rfl, ?y173⟩) hHeld ?r173
            case y173 => (intro w hSw; (try dsimp only at hSw); go_simp <;> with_reducible rfl)
            (try simp only [Act.put, List.setIfInBounds_toArray, List.set_cons_zero, List.set_cons_succ])
            refine wpAnyH_ready (rs := [10]) (by kernel_rfl) (by simp) ?_
            refine AllReadyH.cons (by simp only [List.getElem?_toArray, List.getElem?_cons_succ, List.getElem?_cons_zero]; rfl) (fun K hK => ?_) AllReadyH.nil
            clear hHeld
            go_simp
            refine hK.out _ _ (by (try dsimp only); first | with_reducible exact s1 | with_reducible exact s2 | with_reducible exact s3 | with_reducible exact s8 | with_reducible exact s7) (fun hHeld => ?_)
            clear hK K
            (try simp only [Act.put, List.setIfInBounds_toArray, List.set_cons_zero, List.set_cons_succ])
            clear hHeld
            refine wpAnyH_done (by kernel_rfl) ?_ _
            have HB8 := Lib.hid (HB7.out.setCell (Nat.le_refl b) (.slice A7 (rowN t 6 + 1) c7) (p := ⟨b, 6, none⟩))
            clear HB7 k7 z7 hk7 s1 s2 s3 s7 s8 r0 ra HSX
            generalize w7.setCell ⟨b, 6, none⟩ (.slice A7 (rowN t 6 + 1) c7) = w8 at *
            go_wp2_with fail
            go_ret
            exact radd_yes HB8.out HITM.out (by simp [Item.group]) HT8.out
end Go.Proofs.YtmnjmegejaejlaaDoor
