/-
  WALK: interleaveref16.add at a line of 'site'.
-/
import Derived.Test.YtmnjmegejaejlaaDoorTR36
namespace Go.Proofs.YtmnjmegejaejlaaDoor
open Go.RowKit

theorem info_radd_site : (Tryd.prog.info? 71).map (fun i => (i.zero, i.size, i.bytes)) = some (some (.agg #[.int .i64 0, .int .i64 0, .int .i64 0]), 3, 24) := by kernel_rfl
set_option maxRecDepth 100000 in
set_option maxHeartbeats 16000000 in
theorem radd_site (N base b ab off n c : Nat) (ps : List (List UInt8)) (v : Nat → Value) (t : Trc) (ds : List (Value × Value)) (w : World) (hT : TrS w base b v t ds) (hp : PT w) (_hG : GT b) (hN : base ≤ N) (hNv : ∀ i, i < 7 → ∀ g, (v i).ownBlock = some g → base ≤ g ∧ g < N) (hab : N ≤ ab) (habs : ab < w.heap.size)
    (hn : n = ps.length + 1) (hc : n ≤ c) (hm : c ≤ maxLen) (hcell : ∀ j s, (wSite :: ps)[j]? = some s → w.cell? ⟨ab, off + j, none⟩ = some (.string ⟨s.toArray⟩)) (hl : ∀ p ∈ wSite :: ps, p.length ≤ 1000000000) (hrn : ∀ i, rowN t i ≤ 1000000000) (hpn : ps.length ≤ 900000000) :
    Calls Tryd.prog 18 #[.pointer (some ⟨b, 0, none⟩), .slice (some ⟨ab, off, none⟩) n c] w (RAddRet w base b t (itemI wSite ps)) := by
  obtain ⟨iC, hiC, hzC0, hzC1, hzC2⟩ := info_parts info_radd_site
  have HBB : Hid (b < base ∧ base ≤ N ∧ N ≤ ab ∧ ab < w.heap.size ∧ base ≤ w.heap.size ∧ N ≤ w.heap.size) := Lib.hid ⟨hT.lt, hN, hab, habs, hT.le, by omega⟩
  have HNV := Lib.hid hNv
  have HCELL : Hid (∀ W, Below w.heap.size w W → ∀ j s, (wSite :: ps)[j]? = some s → W.cell? ⟨ab, off + j, none⟩ = some (.string ⟨s.toArray⟩)) := Lib.hid (fun W hW j s hj => (hW.cell (p := ⟨ab, off + j, none⟩) habs).trans (hcell j s hj))
  have HTK : Hid (∀ W, Below w.heap.size w W → TrS W base b v t ds) := Lib.hid (fun W hW => hT.keep hW)
  have HP := Lib.hid hp
  have HL := Lib.hid hl
  have HRN := Lib.hid hrn
  have HPN := Lib.hid hpn
  have HTX : Hid (Txts w (.slice (some ⟨ab, off, none⟩) n c) (wSite :: ps)) := Lib.hid ⟨_, c, by rw [hn]; rfl, by simp; omega, hm, fun _ => ⟨ab, off, rfl, habs, fun j u hj => by
    rw [List.getElem?_map] at hj
    cases e : (wSite :: ps)[j]? with
    | none => rw [e] at hj; cases hj
    | some s => rw [e] at hj; injection hj with hj; rw [← hj]; exact hcell j s e⟩⟩
  have h0 := hcell 0 wSite rfl
  rw [Nat.add_zero] at h0
  unfold wSite at h0
  have i0 : (0 : Int) < (n : Int) := by omega
  have i0n : 0 < n := by omega
  have HN := Lib.hid hn
  clear hT hp hN hNv hab habs hl hrn hpn hm
  cases ps with
  | nil =>
    obtain rfl : n = 1 := hn
    clear hcell
    go_enter Tryd.func18, Tryd.ntmps18
    go_wp2_with fail
    go_ret
    exact radd_no (Below.refl w.heap.size w) (by have := HBB.out; omega) (by rw [itemI_site]; rfl)
  | cons nm qt =>
    have i2 : (2 : Int) ≤ (n : Int) := by simp at hn; omega
    obtain ⟨qs, hqs⟩ : ∃ qs, nm :: qt = qs := ⟨_, rfl⟩
    rw [hqs] at HTX HL HN HPN hcell hn
    rw [hqs] at HCELL ⊢
    clear hqs nm qt
    have HCC := Lib.hid hc
    obtain ⟨dp, hsl, htx⟩ := txts_dropn HN.out HTX.out 1 (by simp)
    have hsl2 : ∀ w : World, (Instr.slice 25 (.slice (some ⟨ab, off, none⟩) n c) (some (.int .i64 1)) none none).run Tryd.prog w = .ok (.slice dp qs.length (c - 1)) w := hsl
    have HTQ : Hid (Txts w (.slice dp qs.length (c - 1)) qs) := Lib.hid htx
    have HLQ : Hid (∀ p ∈ qs, p.length ≤ 1000000000) := Lib.hid (fun p hp => HL.out p (by simp [hp]))
    have HNQ : Hid (qs.length ≤ 1000000000) := (by refine Lib.hid ?_; have := HPN.out; omega)
    clear hsl htx hcell hn hc
    go_enter Tryd.func18, Tryd.ntmps18
    go_wp2_with fail
    refine (rlongs_any dp (c - 1) qs w HTQ.out HP.out HLQ.out HNQ.out).mono ?_
    rintro e w2 hr2
    cases hmm : qs.mapM canonI with
    | none =>
      obtain ⟨rfl, hb2⟩ := longs_no hr2 hmm
      have HB2 := Lib.hid hb2
      have HNO : Hid (itemI wSite qs = none) := Lib.hid (by rw [itemI_site, hmm])
      clear hr2 hmm hb2 h0
      have h0b := HCELL.out w2 HB2.out 0 wSite rfl
      rw [Nat.add_zero] at h0b
      unfold wSite at h0b
      go_wp2_with fail
      go_ret
      exact radd_no HB2.out (by have := HBB.out; omega) HNO.out
    | some ns =>
      obtain ⟨A2, c2, rfl, ho2, hb2⟩ := longs_yes hr2 hmm
      have HB2 := Lib.hid hb2
      have HO2 := Lib.hid ho2
      have HMM := Lib.hid hmm
      clear hr2 hb2 h0 ho2 hsl2 hmm
      have h0b := HCELL.out w2 HB2.out 0 wSite rfl
      rw [Nat.add_zero] at h0b
      unfold wSite at h0b
      have HS1 : Hid (N ≤ w.heap.size) := Lib.hid HBB.out.2.2.2.2.2
      by_cases hlen : ns.length = 3
      · obtain ⟨x, y, z, rfl⟩ := len3 hlen
        clear hlen
        have HI := Lib.hid HO2.out.2
        obtain ⟨g5, rfl, hn5⟩ : ∃ g5, A2 = some ⟨g5, 0, none⟩ ∧ Hid (∀ w', HiKeep N w2 w' → w'.cell? ⟨g5, 0, none⟩ = some (.int .i64 x) ∧ w'.cell? ⟨g5, 1, none⟩ = some (.int .i64 y) ∧ w'.cell? ⟨g5, 2, none⟩ = some (.int .i64 z)) := by
          rcases owns_shape HO2.out.1 with ⟨e, -, e2⟩ | ⟨g, cap, e⟩
          · simp at e2
          · injection e with e1 e2 e3
            subst e1
            obtain ⟨q1, q2, -, -, q5⟩ := rd_of_row HO2.out.1
            have q3 : N ≤ g := Nat.le_trans HS1.out q1
            exact ⟨g, rfl, Lib.hid (fun w' h => ⟨h ⟨g, 0, none⟩ _ q3 (q5 0 _ rfl), h ⟨g, 1, none⟩ _ q3 (q5 1 _ rfl), h ⟨g, 2, none⟩ _ q3 (q5 2 _ rfl)⟩)⟩
        have HITM : Hid (itemI wSite qs = some (.site ⟨x, y, z⟩)) := Lib.hid (by rw [itemI_site, HMM.out])
        have HT5 := Lib.hid (HTK.out w2 HB2.out)
        have HNW := Lib.hid (cells_at w2 71 [.int .i64 x, .int .i64 y, .int .i64 z] rfl)
        have HON : Hid (∀ u ∈ ([.int .i64 x, .int .i64 y, .int .i64 z] : List Value), u.oneCell' = true) := Lib.hid (by intro u hu; simp at hu; rcases hu with rfl | rfl | rfl <;> rfl)
        have HM1 : Hid (rowN t 5 + 1 ≤ maxLen) := (by refine Lib.hid ?_; have := HRN.out 5; unfold maxLen; omega)
        have HM2 : Hid ((rowN t 5 + 1) * 24 ≤ 140737488355328) := (by refine Lib.hid ?_; have := HRN.out 5; omega)
        have HM3 : Hid (base ≤ (w2.alloc (.cells #[.int .i64 x, .int .i64 y, .int .i64 z] 71)).heap.size) := (by refine Lib.hid ?_; have := HT5.out.le; simp; omega)
        have HOW := Lib.hid ((HT5.out.row 5 (by omega)).alloc (.cells #[.int .i64 x, .int .i64 y, .int .i64 z] 71))
        have r0 := HT5.out.blk.cell 5
        have ra := (HT5.out.blk.alloc (.cells #[.int .i64 x, .int .i64 y, .int .i64 z] 71)).cell 5
        simp only [List.getElem?_toArray, List.getElem?_cons_zero, List.getElem?_cons_succ] at r0 ra
        have HSX : Hid (∀ w', HiKeep N w2 w' → w'.cell? ⟨g5, 0, none⟩ = some (.int .i64 x) ∧ w'.cell? ⟨g5, 1, none⟩ = some (.int .i64 y) ∧ w'.cell? ⟨g5, 2, none⟩ = some (.int .i64 z)) := Lib.hid (fun w' h => hn5.out w' h)
        have s1 := HSX.out _ (HiKeep.below (Below.refl w2.heap.size w2).drew)
        have s2 := HSX.out _ (HiKeep.below ((Below.refl w2.heap.size w2).alloc (Nat.le_refl _) (.cells #[.int .i64 x, .int .i64 y, .int .i64 z] 71)).drew)
        have s3 := HSX.out _ (HiKeep.below ((Below.refl w2.heap.size w2).drew.alloc (Nat.le_refl _) (.cells #[.int .i64 x, .int .i64 y, .int .i64 z] 71)))
        have HB5 : Hid (Below w.heap.size w w2) := HB2
        go_upto_region 31 with fail
        refine wp_region_held_drew (S := fun w' => w'.cell? ⟨g5, 0, none⟩ = some (.int .i64 x) ∧ w'.cell? ⟨g5, 1, none⟩ = some (.int .i64 y) ∧ w'.cell? ⟨g5, 2, none⟩ = some (.int .i64 z)) (by kernel_rfl) (by (try dsimp only); first | with_reducible exact s1 | with_reducible exact s2 | with_reducible exact s3 | with_reducible exact s8 | with_reducible exact s7) (fun hHeld => ?_)
        refine wpAnyH_take (i := 0) (v := ?v120) (by simp only [List.getElem?_toArray, List.getElem?_cons_zero]; rfl) (by kernel_rfl) (by kernel_rfl) (by kernel_rfl) (by exact fun _ _ _ h => h) (Or.inl ⟨by rfl, ?y120⟩) hHeld ?r120
        case y120 => (intro w hSw; (try dsimp only at hSw); go_simp <;> with_reducible rfl)
        (try simp only [Act.put, List.setIfInBounds_toArray, List.set_cons_zero, List.set_cons_succ])
        refine wpAnyH_take (i := 1) (v := ?v121) (by simp only [List.getElem?_toArray, List.getElem?_cons_succ, List.getElem?_cons_zero]; rfl) (by kernel_rfl) (by kernel_rfl) (by kernel_rfl) (by exact fun _ _ _ h => h) (Or.inl ⟨by rfl, ?y121⟩) hHeld ?r121
        case y121 => (intro w hSw; (try dsimp only at hSw); go_simp <;> with_reducible rfl)
        (try simp only [Act.put, List.setIfInBounds_toArray, List.set_cons_zero, List.set_cons_succ])
        refine wpAnyH_take (i := 2) (v := ?v122) (by simp only [List.getElem?_toArray, List.getElem?_cons_succ, List.getElem?_cons_zero]; rfl) (by kernel_rfl) (by kernel_rfl) (by kernel_rfl) (by exact fun _ _ _ h => h) (Or.inl ⟨by rfl, ?y122⟩) hHeld ?r122
        case y122 => (intro w hSw; (try dsimp only at hSw); go_simp <;> with_reducible rfl)
        (try simp only [Act.put, List.setIfInBounds_toArray, List.set_cons_zero, List.set_cons_succ])
        refine wpAnyH_take (i := 3) (v := ?v123) (by simp only [List.getElem?_toArray, List.getElem?_cons_succ, List.getElem?_cons_zero]; rfl) (by kernel_rfl) (by kernel_rfl) (by kernel_rfl) (by exact fun _ _ _ h => h) (Or.inl ⟨by rfl, ?y123⟩) hHeld ?r123
        case y123 => (intro w hSw; (try dsimp only at hSw); go_simp <;> with_reducible rfl)
        (try simp only [Act.put, List.setIfInBounds_toArray, List.set_cons_zero, List.set_cons_succ])
        refine wpAnyH_take (i := 5) (v := ?v124) (by simp only [List.getElem?_toArray, List.getElem?_cons_succ, List.getElem?_cons_zero]; rfl) (by kernel_rfl) (by kernel_rfl) (by kernel_rfl) (by exact fun _ _ _ h => h) (Or.inl ⟨by rfl, ?y124⟩) hHeld ?r124
        case y124 => (intro w hSw; (try dsimp only at hSw); go_simp <;> with_reducible rfl)
        (try simp only [Act.put, List.setIfInBounds_toArray, List.set_cons_zero, List.set_cons_succ])
        refine wpAnyH_take (i := 6) (v := ?v125) (by simp only [List.getElem?_toArray, List.getElem?_cons_succ, List.getElem?_cons_zero]; rfl) (by kernel_rfl) (by kernel_rfl) (by kernel_rfl) (by exact fun _ _ _ h => h) (Or.inl ⟨by rfl, ?y125⟩) hHeld ?r125
        case y125 => (intro w hSw; (try dsimp only at hSw); go_simp <;> with_reducible rfl)
        (try simp only [Act.put, List.setIfInBounds_toArray, List.set_cons_zero, List.set_cons_succ])
        refine wpAnyH_take (i := 7) (v := ?v126) (by simp only [List.getElem?_toArray, List.getElem?_cons_succ, List.getElem?_cons_zero]; rfl) (by kernel_rfl) (by kernel_rfl) (by kernel_rfl) (by exact fun _ _ _ h => h) (Or.inl ⟨by rfl, ?y126⟩) hHeld ?r126
        case y126 => (intro w hSw; (try dsimp only at hSw); go_simp <;> with_reducible rfl)
        (try simp only [Act.put, List.setIfInBounds_toArray, List.set_cons_zero, List.set_cons_succ])
        refine wpAnyH_take (i := 8) (v := ?v127) (by simp only [List.getElem?_toArray, List.getElem?_cons_succ, List.getElem?_cons_zero]; rfl) (by kernel_rfl) (by kernel_rfl) (by kernel_rfl) (by exact fun _ _ _ h => h) (Or.inl ⟨by rfl, ?y127⟩) hHeld ?r127
        case y127 => (intro w hSw; (try dsimp only at hSw); go_simp <;> with_reducible rfl)
        (try simp only [Act.put, List.setIfInBounds_toArray, List.set_cons_zero, List.set_cons_succ])
        refine wpAnyH_take (i := 9) (v := ?v128) (by simp only [List.getElem?_toArray, List.getElem?_cons_succ, List.getElem?_cons_zero]; rfl) (by kernel_rfl) (by kernel_rfl) (by kernel_rfl) (by exact fun _ _ _ h => h) (Or.inl ⟨by rfl, ?y128⟩) hHeld ?r128
        case y128 => (intro w hSw; (try dsimp only at hSw); go_simp <;> with_reducible rfl)
        (try simp only [Act.put, List.setIfInBounds_toArray, List.set_cons_zero, List.set_cons_succ])
        refine wpAnyH_take (i := 10) (v := ?v129) (by simp only [List.getElem?_toArray, List.getElem?_cons_succ, List.getElem?_cons_zero]; rfl) (by kernel_rfl) (by kernel_rfl) (by kernel_rfl) (by exact fun _ _ _ h => h) (Or.inl ⟨by rfl, ?y129⟩) hHeld ?r129
        case y129 => (intro w hSw; (try dsimp only at hSw); go_simp <;> with_reducible rfl)
        (try simp only [Act.put, List.setIfInBounds_toArray, List.set_cons_zero, List.set_cons_succ])
        refine wpAnyH_take (i := 11) (v := ?v130) (by simp only [List.getElem?_toArray, List.getElem?_cons_succ, List.getElem?_cons_zero]; rfl) (by kernel_rfl) (by kernel_rfl) (by kernel_rfl) (by exact fun _ _ _ h => h) (Or.inl ⟨by rfl, ?y130⟩) hHeld ?r130
        case y130 => (intro w hSw; (try dsimp only at hSw); go_simp <;> with_reducible rfl)
        (try simp only [Act.put, List.setIfInBounds_toArray, List.set_cons_zero, List.set_cons_succ])
        refine wpAnyH_take (i := 12) (v := ?v131) (by simp only [List.getElem?_toArray, List.getElem?_cons_succ, List.getElem?_cons_zero]; rfl) (by kernel_rfl) (by kernel_rfl) (by kernel_rfl) (by exact fun _ _ _ h => h) (Or.inl ⟨by rfl, ?y131⟩) hHeld ?r131
        case y131 => (intro w hSw; (try dsimp only at hSw); go_simp <;> with_reducible rfl)
        (try simp only [Act.put, List.setIfInBounds_toArray, List.set_cons_zero, List.set_cons_succ])
        refine wpAnyH_take (i := 13) (v := ?v132) (by simp only [List.getElem?_toArray, List.getElem?_cons_succ, List.getElem?_cons_zero]; rfl) (by kernel_rfl) (by kernel_rfl) (by kernel_rfl) (by exact fun _ _ _ h => h) (Or.inl ⟨by rfl, ?y132⟩) hHeld ?r132
        case y132 => (intro w hSw; (try dsimp only at hSw); go_simp <;> with_reducible rfl)
        (try simp only [Act.put, List.setIfInBounds_toArray, List.set_cons_zero, List.set_cons_succ])
        refine wpAnyH_take (i := 14) (v := ?v133) (by simp only [List.getElem?_toArray, List.getElem?_cons_succ, List.getElem?_cons_zero]; rfl) (by kernel_rfl) (by kernel_rfl) (by kernel_rfl) (by exact fun _ _ _ h => h) (Or.inl ⟨by rfl, ?y133⟩) hHeld ?r133
        case y133 => (intro w hSw; (try dsimp only at hSw); go_simp <;> with_reducible rfl)
        (try simp only [Act.put, List.setIfInBounds_toArray, List.set_cons_zero, List.set_cons_succ])
        refine wpAnyH_ready (rs := [4, 15]) (by kernel_rfl) (by simp) ?_
        refine AllReadyH.cons (by simp only [List.getElem?_toArray, List.getElem?_cons_succ, List.getElem?_cons_zero]; rfl) (fun K hK => ?_) (AllReadyH.cons (by simp only [List.getElem?_toArray, List.getElem?_cons_succ, List.getElem?_cons_zero]; rfl) (fun K hK => ?_) AllReadyH.nil)
        · clear hHeld
          go_simp
          refine hK.out _ _ (by (try dsimp only); first | with_reducible exact s1 | with_reducible exact s2 | with_reducible exact s3 | with_reducible exact s8 | with_reducible exact s7) (fun hHeld => ?_)
          clear hK K
          (try simp only [Act.put, List.setIfInBounds_toArray, List.set_cons_zero, List.set_cons_succ])
          refine wpAnyH_ready (rs := [15]) (by kernel_rfl) (by simp) ?_
          refine AllReadyH.cons (by simp only [List.getElem?_toArray, List.getElem?_cons_succ, List.getElem?_cons_zero]; rfl) (fun K hK => ?_) AllReadyH.nil
          clear hHeld
          go_simp
          refine hK.out _ _ (by (try dsimp only); first | with_reducible exact s1 | with_reducible exact s2 | with_reducible exact s3 | with_reducible exact s8 | with_reducible exact s7) (fun hHeld => ?_)
          clear hK K
          (try simp only [Act.put, List.setIfInBounds_toArray, List.set_cons_zero, List.set_cons_succ])
          refine wpAnyH_ready (rs := [16]) (by kernel_rfl) (by simp) ?_
          refine AllReadyH.cons (by simp only [List.getElem?_toArray, List.getElem?_cons_succ, List.getElem?_cons_zero]; rfl) (fun K hK => ?_) AllReadyH.nil
          clear hHeld
          (refine step_app_own rfl (.tmp 223) (.tmp 234) 26 rfl base 71 iC _ 3 24 Tryd.underlying26 hiC hzC0 hzC1 hzC2 rfl (by decide) (v 5) (rowN t 5) (rowX t ds 5) (by first | rfl | simp [Act.eval]) HOW.out.drew ⟨w2.heap.size, 0, none⟩ 1 1 [.int .i64 x, .int .i64 y, .int .i64 z] (by first | rfl | simp [Act.eval]) rfl HNW.out HON.out HM1.out HM2.out HM3.out ?_; intro v7 w7 hown hg hat; have hg1 : (w2.alloc (.cells #[.int .i64 x, .int .i64 y, .int .i64 z] 71)).grownBy w7 (v 5).ownBlock := ⟨hg.os, hg.tape, hg.output, hg.size, hg.block⟩; obtain ⟨A7, c7, e7, -, -, -⟩ := owns_rd hown; subst e7; have HT8 := Lib.hid (HT5.out.push (i := 5) (it := (.site ⟨x, y, z⟩)) (d := (.slice none 0 0, .slice none 0 0)) rfl hown hg1 hat (by intro e he; cases he) ⟨HI.out x (by simp), HI.out y (by simp), HI.out z (by simp)⟩); have hb7 := (HT5.out.blk.alloc (.cells #[.int .i64 x, .int .i64 y, .int .i64 z] 71)).grown hg1 (by intro e; have := HNV.out 5 (by omega) b e.symm; have := HBB.out; omega); have k7 := hb7.cell 5; have z7 := hb7.frozen 5; simp only [List.getElem?_toArray, List.getElem?_cons_zero, List.getElem?_cons_succ] at k7; have HB7 : Hid (Below b w w7) := Lib.hid (((HB5.out.mono (by have := HBB.out; omega)).alloc (by have := HBB.out; have := HB5.out.size; omega) _).grown hg1 (by have := HBB.out; have := HB5.out.size; simp; omega) (fun g e => by have := HNV.out 5 (by omega) g e; have := HBB.out; omega)); have hk7 : HiKeep N w2 w7 := (HiKeep.below ((Below.refl w2.heap.size w2).alloc (Nat.le_refl _) (.cells #[.int .i64 x, .int .i64 y, .int .i64 z] 71))).trans (HiKeep.grown hg1 (fun g e => (HNV.out 5 (by omega) g e).2)); have s7 := HSX.out w7 hk7; have s8 := HSX.out _ (hk7.trans (HiKeep.grown (grownBy_set0 w7 b 5 (.slice A7 (rowN t 5 + 1) c7)) (fun g e => by injection e with e; have := HBB.out; omega))); clear hown hg hat hb7 hg1)
          refine hK.out _ _ (by (try dsimp only); first | with_reducible exact s1 | with_reducible exact s2 | with_reducible exact s3 | with_reducible exact s8 | with_reducible exact s7) (fun hHeld => ?_)
          clear hK K
          (try simp only [Act.put, List.setIfInBounds_toArray, List.set_cons_zero, List.set_cons_succ])
          refine wpAnyH_take (i := 17) (v := ?v134) (by simp only [List.getElem?_toArray, List.getElem?_cons_succ, List.getElem?_cons_zero]; rfl) (by kernel_rfl) (by kernel_rfl) (by kernel_rfl) (by exact fun _ _ _ h => h) (Or.inl ⟨by rfl, ?y134⟩) hHeld ?r134
          case y134 => (intro w hSw; (try dsimp only at hSw); go_simp <;> with_reducible rfl)
          (try simp only [Act.put, List.setIfInBounds_toArray, List.set_cons_zero, List.set_cons_succ])
          refine wpAnyH_take (i := 18) (v := ?v135) (by simp only [List.getElem?_toArray, List.getElem?_cons_succ, List.getElem?_cons_zero]; rfl) (by kernel_rfl) (by kernel_rfl) (by kernel_rfl) (by exact fun _ _ _ h => h) (Or.inl ⟨by rfl, ?y135⟩) hHeld ?r135
          case y135 => (intro w hSw; (try dsimp only at hSw); go_simp <;> with_reducible rfl)
          (try simp only [Act.put, List.setIfInBounds_toArray, List.set_cons_zero, List.set_cons_succ])
          refine wpAnyH_ready (rs := [19]) (by kernel_rfl) (by simp) ?_
          refine AllReadyH.cons (by simp only [List.getElem?_toArray, List.getElem?_cons_succ, List.getElem?_cons_zero]; rfl) (fun K hK => ?_) AllReadyH.nil
          clear hHeld
          go_simp
          refine hK.out _ _ (by (try dsimp only); first | with_reducible exact s1 | with_reducible exact s2 | with_reducible exact s3 | with_reducible exact s8 | with_reducible exact s7) (fun hHeld => ?_)
          clear hK K
          (try simp only [Act.put, List.setIfInBounds_toArray, List.set_cons_zero, List.set_cons_succ])
          clear hHeld
          refine wpAnyH_done (by kernel_rfl) ?_ _
          have HB8 := Lib.hid (HB7.out.setCell (Nat.le_refl b) (.slice A7 (rowN t 5 + 1) c7) (p := ⟨b, 5, none⟩))
          clear HB7 k7 z7 hk7 s1 s2 s3 s7 s8 r0 ra HSX
          generalize w7.setCell ⟨b, 5, none⟩ (.slice A7 (rowN t 5 + 1) c7) = w8 at *
          go_wp2_with fail
          go_ret
          exact radd_yes HB8.out HITM.out (by simp [Item.group]) HT8.out
        · clear hHeld
          go_simp
          refine hK.out _ _ (by (try dsimp only); first | with_reducible exact s1 | with_reducible exact s2 | with_reducible exact s3 | with_reducible exact s8 | with_reducible exact s7) (fun hHeld => ?_)
          clear hK K
          (try simp only [Act.put, List.setIfInBounds_toArray, List.set_cons_zero, List.set_cons_succ])
          refine wpAnyH_ready (rs := [4]) (by kernel_rfl) (by simp) ?_
          refine AllReadyH.cons (by simp only [List.getElem?_toArray, List.getElem?_cons_succ, List.getElem?_cons_zero]; rfl) (fun K hK => ?_) AllReadyH.nil
          clear hHeld
          go_simp
          refine hK.out _ _ (by (try dsimp only); first | with_reducible exact s1 | with_reducible exact s2 | with_reducible exact s3 | with_reducible exact s8 | with_reducible exact s7) (fun hHeld => ?_)
          clear hK K
          (try simp only [Act.put, List.setIfInBounds_toArray, List.set_cons_zero, List.set_cons_succ])
          refine wpAnyH_ready (rs := [16]) (by kernel_rfl) (by simp) ?_
          refine AllReadyH.cons (by simp only [List.getElem?_toArray, List.getElem?_cons_succ, List.getElem?_cons_zero]; rfl) (fun K hK => ?_) AllReadyH.nil
          clear hHeld
          (refine step_app_own rfl (.tmp 223) (.tmp 234) 26 rfl base 71 iC _ 3 24 Tryd.underlying26 hiC hzC0 hzC1 hzC2 rfl (by decide) (v 5) (rowN t 5) (rowX t ds 5) (by first | rfl | simp [Act.eval]) HOW.out.drew ⟨w2.heap.size, 0, none⟩ 1 1 [.int .i64 x, .int .i64 y, .int .i64 z] (by first | rfl | simp [Act.eval]) rfl HNW.out HON.out HM1.out HM2.out HM3.out ?_; intro v7 w7 hown hg hat; have hg1 : (w2.alloc (.cells #[.int .i64 x, .int .i64 y, .int .i64 z] 71)).grownBy w7 (v 5).ownBlock := ⟨hg.os, hg.tape, hg.output, hg.size, hg.block⟩; obtain ⟨A7, c7, e7, -, -, -⟩ := owns_rd hown; subst e7; have HT8 := Lib.hid (HT5.out.push (i := 5) (it := (.site ⟨x, y, z⟩)) (d := (.slice none 0 0, .slice none 0 0)) rfl hown hg1 hat (by intro e he; cases he) ⟨HI.out x (by simp), HI.out y (by simp), HI.out z (by simp)⟩); have hb7 := (HT5.out.blk.alloc (.cells #[.int .i64 x, .int .i64 y, .int .i64 z] 71)).grown hg1 (by intro e; have := HNV.out 5 (by omega) b e.symm; have := HBB.out; omega); have k7 := hb7.cell 5; have z7 := hb7.frozen 5; simp only [List.getElem?_toArray, List.getElem?_cons_zero, List.getElem?_cons_succ] at k7; have HB7 : Hid (Below b w w7) := Lib.hid (((HB5.out.mono (by have := HBB.out; omega)).alloc (by have := HBB.out; have := HB5.out.size; omega) _).grown hg1 (by have := HBB.out; have := HB5.out.size; simp; omega) (fun g e => by have := HNV.out 5 (by omega) g e; have := HBB.out; omega)); have hk7 : HiKeep N w2 w7 := (HiKeep.below ((Below.refl w2.heap.size w2).alloc (Nat.le_refl _) (.cells #[.int .i64 x, .int .i64 y, .int .i64 z] 71))).trans (HiKeep.grown hg1 (fun g e => (HNV.out 5 (by omega) g e).2)); have s7 := HSX.out w7 hk7; have s8 := HSX.out _ (hk7.trans (HiKeep.grown (grownBy_set0 w7 b 5 (.slice A7 (rowN t 5 + 1) c7)) (fun g e => by injection e with e; have := HBB.out; omega))); clear hown hg hat hb7 hg1)
          refine hK.out _ _ (by (try dsimp only); first | with_reducible exact s1 | with_reducible exact s2 | with_reducible exact s3 | with_reducible exact s8 | with_reducible exact s7) (fun hHeld => ?_)
          clear hK K
          (try simp only [Act.put, List.setIfInBounds_toArray, List.set_cons_zero, List.set_cons_succ])
          refine wpAnyH_take (i := 17) (v := ?v136) (by simp only [List.getElem?_toArray, List.getElem?_cons_succ, List.getElem?_cons_zero]; rfl) (by kernel_rfl) (by kernel_rfl) (by kernel_rfl) (by exact fun _ _ _ h => h) (Or.inl ⟨by rfl, ?y136⟩) hHeld ?r136
          case y136 => (intro w hSw; (try dsimp only at hSw); go_simp <;> with_reducible rfl)
          (try simp only [Act.put, List.setIfInBounds_toArray, List.set_cons_zero, List.set_cons_succ])
          refine wpAnyH_take (i := 18) (v := ?v137) (by simp only [List.getElem?_toArray, List.getElem?_cons_succ, List.getElem?_cons_zero]; rfl) (by kernel_rfl) (by kernel_rfl) (by kernel_rfl) (by exact fun _ _ _ h => h) (Or.inl ⟨by rfl, ?y137⟩) hHeld ?r137
          case y137 => (intro w hSw; (try dsimp only at hSw); go_simp <;> with_reducible rfl)
          (try simp only [Act.put, List.setIfInBounds_toArray, List.set_cons_zero, List.set_cons_succ])
          refine wpAnyH_ready (rs := [19]) (by kernel_rfl) (by simp) ?_
          refine AllReadyH.cons (by simp only [List.getElem?_toArray, List.getElem?_cons_succ, List.getElem?_cons_zero]; rfl) (fun K hK => ?_) AllReadyH.nil
          clear hHeld
          go_simp
          refine hK.out _ _ (by (try dsimp only); first | with_reducible exact s1 | with_reducible exact s2 | with_reducible exact s3 | with_reducible exact s8 | with_reducible exact s7) (fun hHeld => ?_)
          clear hK K
          (try simp only [Act.put, List.setIfInBounds_toArray, List.set_cons_zero, List.set_cons_succ])
          clear hHeld
          refine wpAnyH_done (by kernel_rfl) ?_ _
          have HB8 := Lib.hid (HB7.out.setCell (Nat.le_refl b) (.slice A7 (rowN t 5 + 1) c7) (p := ⟨b, 5, none⟩))
          clear HB7 k7 z7 hk7 s1 s2 s3 s7 s8 r0 ra HSX
          generalize w7.setCell ⟨b, 5, none⟩ (.slice A7 (rowN t 5 + 1) c7) = w8 at *
          go_wp2_with fail
          go_ret
          exact radd_yes HB8.out HITM.out (by simp [Item.group]) HT8.out
      · have q9 : ((ns.length : Int) == 3) = false := by rw [beq_eq_false_iff_ne]; omega
        have HNO : Hid (itemI wSite qs = none) := Lib.hid (nb_site HMM.out hlen)
        clear hlen
        go_wp2_with fail
        go_ret
        exact radd_no HB2.out (by have := HBB.out; omega) HNO.out
end Go.Proofs.YtmnjmegejaejlaaDoor
