/-
  WALK: interleaveref16.add at a line of 'future'.
-/
import Derived.Test.YtmnjmegejaejlaaDoorTR36
namespace Go.Proofs.YtmnjmegejaejlaaDoor
open Go.RowKit

theorem info_radd_future : (Tryd.prog.info? 9).map (fun i => (i.zero, i.size, i.bytes)) = some (some (.string ⟨#[]⟩), 1, 16) := by kernel_rfl
set_option maxRecDepth 100000 in
set_option maxHeartbeats 16000000 in
theorem radd_future (N base b ab off n c : Nat) (ps : List (List UInt8)) (v : Nat → Value) (t : Trc) (ds : List (Value × Value)) (w : World) (hT : TrS w base b v t ds) (hp : PT w) (_hG : GT b) (hN : base ≤ N) (hNv : ∀ i, i < 7 → ∀ g, (v i).ownBlock = some g → base ≤ g ∧ g < N) (hab : N ≤ ab) (habs : ab < w.heap.size)
    (hn : n = ps.length + 1) (hc : n ≤ c) (hm : c ≤ maxLen) (hcell : ∀ j s, (wFut :: ps)[j]? = some s → w.cell? ⟨ab, off + j, none⟩ = some (.string ⟨s.toArray⟩)) (hl : ∀ p ∈ wFut :: ps, p.length ≤ 1000000000) (hrn : ∀ i, rowN t i ≤ 1000000000) (hpn : ps.length ≤ 900000000) :
    Calls Tryd.prog 18 #[.pointer (some ⟨b, 0, none⟩), .slice (some ⟨ab, off, none⟩) n c] w (RAddRet w base b t (itemI wFut ps)) := by
  obtain ⟨iC, hiC, hzC0, hzC1, hzC2⟩ := info_parts info_radd_future
  have HBB : Hid (b < base ∧ base ≤ N ∧ N ≤ ab ∧ ab < w.heap.size ∧ base ≤ w.heap.size ∧ N ≤ w.heap.size) := Lib.hid ⟨hT.lt, hN, hab, habs, hT.le, by omega⟩
  have HNV := Lib.hid hNv
  have HCELL : Hid (∀ W, Below w.heap.size w W → ∀ j s, (wFut :: ps)[j]? = some s → W.cell? ⟨ab, off + j, none⟩ = some (.string ⟨s.toArray⟩)) := Lib.hid (fun W hW j s hj => (hW.cell (p := ⟨ab, off + j, none⟩) habs).trans (hcell j s hj))
  have HTK : Hid (∀ W, Below w.heap.size w W → TrS W base b v t ds) := Lib.hid (fun W hW => hT.keep hW)
  have HP := Lib.hid hp
  have HL := Lib.hid hl
  have HRN := Lib.hid hrn
  have HPN := Lib.hid hpn
  have HTX : Hid (Txts w (.slice (some ⟨ab, off, none⟩) n c) (wFut :: ps)) := Lib.hid ⟨_, c, by rw [hn]; rfl, by simp; omega, hm, fun _ => ⟨ab, off, rfl, habs, fun j u hj => by
    rw [List.getElem?_map] at hj
    cases e : (wFut :: ps)[j]? with
    | none => rw [e] at hj; cases hj
    | some s => rw [e] at hj; injection hj with hj; rw [← hj]; exact hcell j s e⟩⟩
  have h0 := hcell 0 wFut rfl
  rw [Nat.add_zero] at h0
  unfold wFut at h0
  have i0 : (0 : Int) < (n : Int) := by omega
  have i0n : 0 < n := by omega
  have HN := Lib.hid hn
  clear hT hp hN hNv hab habs hl hrn hpn hm
  cases ps with
  | nil =>
    obtain rfl : n = 1 := hn
    clear hcell
    go_enter Tryd.func18, Tryd.ntmps18
    go_wp2_with fail
    go_ret
    exact radd_no (Below.refl w.heap.size w) (by have := HBB.out; omega) (itemI_nil (by decide) (by decide))
  | cons nm qs =>
    have h1 := hcell 1 nm rfl
    have HCC := Lib.hid hc
    have i1 : (1 : Int) < (n : Int) := by simp at hn; omega
    have i2 : (2 : Int) ≤ (n : Int) := by omega
    clear hcell hn hc
    go_enter Tryd.func18, Tryd.ntmps18
    go_wp2_with fail
    refine (rname_any nm w).mono ?_
    rintro e w1 ⟨rfl, hb1⟩
    have HB1 := Lib.hid hb1
    clear hb1 h0 h1
    have h0a := HCELL.out w1 HB1.out 0 wFut rfl
    rw [Nat.add_zero] at h0a
    unfold wFut at h0a
    cases hnm : nameB nm with
    | false =>
      have HNO := Lib.hid (item_noname (h := wFut) (n := nm) (qs := qs) (by decide) (by decide) hnm)
      clear hnm
      go_wp2_with fail
      go_ret
      exact radd_no HB1.out (by have := HBB.out; omega) HNO.out
    | true =>
      have HNM := Lib.hid hnm
      obtain ⟨dp, hsl, htx⟩ := txts_dropn HN.out HTX.out 2 (by simp)
      have hsl2 : ∀ w : World, (Instr.slice 25 (.slice (some ⟨ab, off, none⟩) n c) (some (.int .i64 2)) none none).run Tryd.prog w = .ok (.slice dp qs.length (c - 2)) w := hsl
      have HTQ : Hid (Txts w (.slice dp qs.length (c - 2)) qs) := Lib.hid htx
      have HLQ : Hid (∀ p ∈ qs, p.length ≤ 1000000000) := Lib.hid (fun p hp => HL.out p (by simp [hp]))
      have HNQ : Hid (qs.length ≤ 1000000000) := (by refine Lib.hid ?_; have := HPN.out; simp at this; omega)
      clear hnm hsl htx
      go_wp2_with fail
      refine (rlongs_any dp (c - 2) qs w1 (HTQ.out.keep HB1.out) (HP.out.below HB1.out) HLQ.out HNQ.out).mono ?_
      rintro e w2 hr2
      cases hmm : qs.mapM canonI with
      | none =>
        obtain ⟨rfl, hb2⟩ := longs_no hr2 hmm
        have HB2 := Lib.hid (HB1.out.trans (hb2.mono HB1.out.size))
        have HNO := Lib.hid (item_nonum (h := wFut) (n := nm) (by decide) (by decide) hmm)
        clear hr2 hmm hb2 h0a
        have h0b := HCELL.out w2 HB2.out 0 wFut rfl
        rw [Nat.add_zero] at h0b
        unfold wFut at h0b
        go_wp2_with fail
        go_ret
        exact radd_no HB2.out (by have := HBB.out; omega) HNO.out
      | some ns =>
        obtain ⟨A2, c2, rfl, ho2, hb2⟩ := longs_yes hr2 hmm
        have HB2 := Lib.hid (HB1.out.trans (hb2.mono HB1.out.size))
        have HIT := Lib.hid (item_num (h := wFut) (by decide) (by decide) HNM.out hmm)
        have HO2 := Lib.hid ho2
        clear hr2 hb2 h0a ho2 hsl2
        have h0b := HCELL.out w2 HB2.out 0 wFut rfl
        rw [Nat.add_zero] at h0b
        unfold wFut at h0b
        have HS1 : Hid (N ≤ w1.heap.size) := Lib.hid (by have := HBB.out; have := HB1.out.size; omega)
        by_cases hlen : ns.length = 0
        · obtain rfl : ns = [] := List.eq_nil_of_length_eq_zero hlen
          clear hlen hmm
          have HITM : Hid (itemI wFut (nm :: qs) = some (.fut nm)) := Lib.hid (by rw [HIT.out]; rfl)
          have HT5 := Lib.hid (HTK.out w2 HB2.out)
          have HNW := Lib.hid (cells_at w2 9 [.string ⟨nm.toArray⟩] rfl)
          have HON : Hid (∀ u ∈ ([.string ⟨nm.toArray⟩] : List Value), u.oneCell' = true) := Lib.hid (by intro u hu; simp at hu; subst hu; rfl)
          have HM1 : Hid (rowN t 3 + 1 ≤ maxLen) := (by refine Lib.hid ?_; have := HRN.out 3; unfold maxLen; omega)
          have HM2 : Hid ((rowN t 3 + 1) * 16 ≤ 140737488355328) := (by refine Lib.hid ?_; have := HRN.out 3; omega)
          have HM3 : Hid (base ≤ (w2.alloc (.cells #[.string ⟨nm.toArray⟩] 9)).heap.size) := (by refine Lib.hid ?_; have := HT5.out.le; simp; omega)
          have HOW := Lib.hid ((HT5.out.row 3 (by omega)).alloc (.cells #[.string ⟨nm.toArray⟩] 9))
          have r0 := HT5.out.blk.cell 3
          have ra := (HT5.out.blk.alloc (.cells #[.string ⟨nm.toArray⟩] 9)).cell 3
          simp only [List.getElem?_toArray, List.getElem?_cons_zero, List.getElem?_cons_succ] at r0 ra
          have HSX : Hid (∀ w', HiKeep N w2 w' → w'.cell? ⟨ab, off + 1, none⟩ = some (.string ⟨nm.toArray⟩)) := Lib.hid (fun w' h => h ⟨ab, off + 1, none⟩ _ HBB.out.2.2.1 (HCELL.out w2 HB2.out 1 nm rfl))
          have s1 := HSX.out _ (HiKeep.below (Below.refl w2.heap.size w2).drew)
          have s2 := HSX.out _ (HiKeep.below ((Below.refl w2.heap.size w2).alloc (Nat.le_refl _) (.cells #[.string ⟨nm.toArray⟩] 9)).drew)
          have s3 := HSX.out _ (HiKeep.below ((Below.refl w2.heap.size w2).drew.alloc (Nat.le_refl _) (.cells #[.string ⟨nm.toArray⟩] 9)))
          have HB5 : Hid (Below w.heap.size w w2) := HB2
          go_upto_region 25 with fail
          refine wp_region_held_drew (S := fun w' => w'.cell? ⟨ab, off + 1, none⟩ = some (.string ⟨nm.toArray⟩)) (by kernel_rfl) (by (try dsimp only); first | with_reducible exact s1 | with_reducible exact s2 | with_reducible exact s3 | with_reducible exact s8 | with_reducible exact s7) (fun hHeld => ?_)
          refine wpAnyH_take (i := 0) (v := ?v98) (by simp only [List.getElem?_toArray, List.getElem?_cons_zero]; rfl) (by kernel_rfl) (by kernel_rfl) (by kernel_rfl) (by exact fun _ _ _ h => h) (Or.inl ⟨by rfl, ?y98⟩) hHeld ?r98
          case y98 => (intro w hSw; (try dsimp only at hSw); go_simp <;> with_reducible rfl)
          (try simp only [Act.put, List.setIfInBounds_toArray, List.set_cons_zero, List.set_cons_succ])
          refine wpAnyH_take (i := 1) (v := ?v99) (by simp only [List.getElem?_toArray, List.getElem?_cons_succ, List.getElem?_cons_zero]; rfl) (by kernel_rfl) (by kernel_rfl) (by kernel_rfl) (by exact fun _ _ _ h => h) (Or.inl ⟨by rfl, ?y99⟩) hHeld ?r99
          case y99 => (intro w hSw; (try dsimp only at hSw); go_simp <;> with_reducible rfl)
          (try simp only [Act.put, List.setIfInBounds_toArray, List.set_cons_zero, List.set_cons_succ])
          refine wpAnyH_take (i := 2) (v := ?v100) (by simp only [List.getElem?_toArray, List.getElem?_cons_succ, List.getElem?_cons_zero]; rfl) (by kernel_rfl) (by kernel_rfl) (by kernel_rfl) (by exact fun _ _ _ h => h) (Or.inl ⟨by rfl, ?y100⟩) hHeld ?r100
          case y100 => (intro w hSw; (try dsimp only at hSw); go_simp <;> with_reducible rfl)
          (try simp only [Act.put, List.setIfInBounds_toArray, List.set_cons_zero, List.set_cons_succ])
          refine wpAnyH_take (i := 3) (v := ?v101) (by simp only [List.getElem?_toArray, List.getElem?_cons_succ, List.getElem?_cons_zero]; rfl) (by kernel_rfl) (by kernel_rfl) (by kernel_rfl) (by exact fun _ _ _ h => h) (Or.inl ⟨by rfl, ?y101⟩) hHeld ?r101
          case y101 => (intro w hSw; (try dsimp only at hSw); go_simp <;> with_reducible rfl)
          (try simp only [Act.put, List.setIfInBounds_toArray, List.set_cons_zero, List.set_cons_succ])
          refine wpAnyH_take (i := 5) (v := ?v102) (by simp only [List.getElem?_toArray, List.getElem?_cons_succ, List.getElem?_cons_zero]; rfl) (by kernel_rfl) (by kernel_rfl) (by kernel_rfl) (by exact fun _ _ _ h => h) (Or.inl ⟨by rfl, ?y102⟩) hHeld ?r102
          case y102 => (intro w hSw; (try dsimp only at hSw); go_simp <;> with_reducible rfl)
          (try simp only [Act.put, List.setIfInBounds_toArray, List.set_cons_zero, List.set_cons_succ])
          refine wpAnyH_take (i := 6) (v := ?v103) (by simp only [List.getElem?_toArray, List.getElem?_cons_succ, List.getElem?_cons_zero]; rfl) (by kernel_rfl) (by kernel_rfl) (by kernel_rfl) (by exact fun _ _ _ h => h) (Or.inl ⟨by rfl, ?y103⟩) hHeld ?r103
          case y103 => (intro w hSw; (try dsimp only at hSw); go_simp <;> with_reducible rfl)
          (try simp only [Act.put, List.setIfInBounds_toArray, List.set_cons_zero, List.set_cons_succ])
          refine wpAnyH_take (i := 7) (v := ?v104) (by simp only [List.getElem?_toArray, List.getElem?_cons_succ, List.getElem?_cons_zero]; rfl) (by kernel_rfl) (by kernel_rfl) (by kernel_rfl) (by exact fun _ _ _ h => h) (Or.inl ⟨by rfl, ?y104⟩) hHeld ?r104
          case y104 => (intro w hSw; (try dsimp only at hSw); go_simp <;> with_reducible rfl)
          (try simp only [Act.put, List.setIfInBounds_toArray, List.set_cons_zero, List.set_cons_succ])
          refine wpAnyH_ready (rs := [4, 8]) (by kernel_rfl) (by simp) ?_
          refine AllReadyH.cons (by simp only [List.getElem?_toArray, List.getElem?_cons_succ, List.getElem?_cons_zero]; rfl) (fun K hK => ?_) (AllReadyH.cons (by simp only [List.getElem?_toArray, List.getElem?_cons_succ, List.getElem?_cons_zero]; rfl) (fun K hK => ?_) AllReadyH.nil)
          · clear hHeld
            go_simp
            refine hK.out _ _ (by (try dsimp only); first | with_reducible exact s1 | with_reducible exact s2 | with_reducible exact s3 | with_reducible exact s8 | with_reducible exact s7) (fun hHeld => ?_)
            clear hK K
            (try simp only [Act.put, List.setIfInBounds_toArray, List.set_cons_zero, List.set_cons_succ])
            refine wpAnyH_ready (rs := [8]) (by kernel_rfl) (by simp) ?_
            refine AllReadyH.cons (by simp only [List.getElem?_toArray, List.getElem?_cons_succ, List.getElem?_cons_zero]; rfl) (fun K hK => ?_) AllReadyH.nil
            clear hHeld
            go_simp
            refine hK.out _ _ (by (try dsimp only); first | with_reducible exact s1 | with_reducible exact s2 | with_reducible exact s3 | with_reducible exact s8 | with_reducible exact s7) (fun hHeld => ?_)
            clear hK K
            (try simp only [Act.put, List.setIfInBounds_toArray, List.set_cons_zero, List.set_cons_succ])
            refine wpAnyH_ready (rs := [9]) (by kernel_rfl) (by simp) ?_
            refine AllReadyH.cons (by simp only [List.getElem?_toArray, List.getElem?_cons_succ, List.getElem?_cons_zero]; rfl) (fun K hK => ?_) AllReadyH.nil
            clear hHeld
            (refine step_app_own rfl (.tmp 179) (.tmp 183) 25 rfl base 9 iC _ 1 16 Tryd.underlying25 hiC hzC0 hzC1 hzC2 rfl (by decide) (v 3) (rowN t 3) (rowX t ds 3) (by first | rfl | simp [Act.eval]) HOW.out.drew ⟨w2.heap.size, 0, none⟩ 1 1 [.string ⟨nm.toArray⟩] (by first | rfl | simp [Act.eval]) rfl HNW.out HON.out HM1.out HM2.out HM3.out ?_; intro v7 w7 hown hg hat; have hg1 : (w2.alloc (.cells #[.string ⟨nm.toArray⟩] 9)).grownBy w7 (v 3).ownBlock := ⟨hg.os, hg.tape, hg.output, hg.size, hg.block⟩; obtain ⟨A7, c7, e7, -, -, -⟩ := owns_rd hown; subst e7; have HT8 := Lib.hid (HT5.out.push (i := 3) (it := (.fut nm)) (d := (.slice none 0 0, .slice none 0 0)) rfl hown hg1 hat (by intro e he; cases he) trivial); have hb7 := (HT5.out.blk.alloc (.cells #[.string ⟨nm.toArray⟩] 9)).grown hg1 (by intro e; have := HNV.out 3 (by omega) b e.symm; have := HBB.out; omega); have k7 := hb7.cell 3; have z7 := hb7.frozen 3; simp only [List.getElem?_toArray, List.getElem?_cons_zero, List.getElem?_cons_succ] at k7; have HB7 : Hid (Below b w w7) := Lib.hid (((HB5.out.mono (by have := HBB.out; omega)).alloc (by have := HBB.out; have := HB5.out.size; omega) _).grown hg1 (by have := HBB.out; have := HB5.out.size; simp; omega) (fun g e => by have := HNV.out 3 (by omega) g e; have := HBB.out; omega)); have hk7 : HiKeep N w2 w7 := (HiKeep.below ((Below.refl w2.heap.size w2).alloc (Nat.le_refl _) (.cells #[.string ⟨nm.toArray⟩] 9))).trans (HiKeep.grown hg1 (fun g e => (HNV.out 3 (by omega) g e).2)); have s7 := HSX.out w7 hk7; have s8 := HSX.out _ (hk7.trans (HiKeep.grown (grownBy_set0 w7 b 3 (.slice A7 (rowN t 3 + 1) c7)) (fun g e => by injection e with e; have := HBB.out; omega))); clear hown hg hat hb7 hg1)
            refine hK.out _ _ (by (try dsimp only); first | with_reducible exact s1 | with_reducible exact s2 | with_reducible exact s3 | with_reducible exact s8 | with_reducible exact s7) (fun hHeld => ?_)
            clear hK K
            (try simp only [Act.put, List.setIfInBounds_toArray, List.set_cons_zero, List.set_cons_succ])
            refine wpAnyH_take (i := 10) (v := ?v105) (by simp only [List.getElem?_toArray, List.getElem?_cons_succ, List.getElem?_cons_zero]; rfl) (by kernel_rfl) (by kernel_rfl) (by kernel_rfl) (by exact fun _ _ _ h => h) (Or.inl ⟨by rfl, ?y105⟩) hHeld ?r105
            case y105 => (intro w hSw; (try dsimp only at hSw); go_simp <;> with_reducible rfl)
            (try simp only [Act.put, List.setIfInBounds_toArray, List.set_cons_zero, List.set_cons_succ])
            refine wpAnyH_take (i := 11) (v := ?v106) (by simp only [List.getElem?_toArray, List.getElem?_cons_succ, List.getElem?_cons_zero]; rfl) (by kernel_rfl) (by kernel_rfl) (by kernel_rfl) (by exact fun _ _ _ h => h) (Or.inl ⟨by rfl, ?y106⟩) hHeld ?r106
            case y106 => (intro w hSw; (try dsimp only at hSw); go_simp <;> with_reducible rfl)
            (try simp only [Act.put, List.setIfInBounds_toArray, List.set_cons_zero, List.set_cons_succ])
            refine wpAnyH_ready (rs := [12]) (by kernel_rfl) (by simp) ?_
            refine AllReadyH.cons (by simp only [List.getElem?_toArray, List.getElem?_cons_succ, List.getElem?_cons_zero]; rfl) (fun K hK => ?_) AllReadyH.nil
            clear hHeld
            go_simp
            refine hK.out _ _ (by (try dsimp only); first | with_reducible exact s1 | with_reducible exact s2 | with_reducible exact s3 | with_reducible exact s8 | with_reducible exact s7) (fun hHeld => ?_)
            clear hK K
            (try simp only [Act.put, List.setIfInBounds_toArray, List.set_cons_zero, List.set_cons_succ])
            clear hHeld
            refine wpAnyH_done (by kernel_rfl) ?_ _
            have HB8 := Lib.hid (HB7.out.setCell (Nat.le_refl b) (.slice A7 (rowN t 3 + 1) c7) (p := ⟨b, 3, none⟩))
            clear HB7 k7 z7 hk7 s1 s2 s3 s7 s8 r0 ra HSX
            generalize w7.setCell ⟨b, 3, none⟩ (.slice A7 (rowN t 3 + 1) c7) = w8 at *
            go_wp2_with fail
            go_ret
            exact radd_yes HB8.out HITM.out (by simp [Item.group]) HT8.out
          · clear hHeld
            go_simp
            refine hK.out _ _ (by (try dsimp only); first | with_reducible exact s1 | with_reducible exact s2 | with_reducible exact s3 | with_reducible exact s8 | with_reducible exact s7) (fun hHeld => ?_)
            clear hK K
            (try simp only [Act.put, List.setIfInBounds_toArray, List.set_cons_zero, List.set_cons_succ])
            refine wpAnyH_ready (rs := [4]) (by kernel_rfl) (by simp) ?_
            refine AllReadyH.cons (by simp only [List.getElem?_toArray, List.getElem?_cons_succ, List.getElem?_cons_zero]; rfl) (fun K hK => ?_) AllReadyH.nil
            clear hHeld
            go_simp
            refine hK.out _ _ (by (try dsimp only); first | with_reducible exact s1 | with_reducible exact s2 | with_reducible exact s3 | with_reducible exact s8 | with_reducible exact s7) (fun hHeld => ?_)
            clear hK K
            (try simp only [Act.put, List.setIfInBounds_toArray, List.set_cons_zero, List.set_cons_succ])
            refine wpAnyH_ready (rs := [9]) (by kernel_rfl) (by simp) ?_
            refine AllReadyH.cons (by simp only [List.getElem?_toArray, List.getElem?_cons_succ, List.getElem?_cons_zero]; rfl) (fun K hK => ?_) AllReadyH.nil
            clear hHeld
            (refine step_app_own rfl (.tmp 179) (.tmp 183) 25 rfl base 9 iC _ 1 16 Tryd.underlying25 hiC hzC0 hzC1 hzC2 rfl (by decide) (v 3) (rowN t 3) (rowX t ds 3) (by first | rfl | simp [Act.eval]) HOW.out.drew ⟨w2.heap.size, 0, none⟩ 1 1 [.string ⟨nm.toArray⟩] (by first | rfl | simp [Act.eval]) rfl HNW.out HON.out HM1.out HM2.out HM3.out ?_; intro v7 w7 hown hg hat; have hg1 : (w2.alloc (.cells #[.string ⟨nm.toArray⟩] 9)).grownBy w7 (v 3).ownBlock := ⟨hg.os, hg.tape, hg.output, hg.size, hg.block⟩; obtain ⟨A7, c7, e7, -, -, -⟩ := owns_rd hown; subst e7; have HT8 := Lib.hid (HT5.out.push (i := 3) (it := (.fut nm)) (d := (.slice none 0 0, .slice none 0 0)) rfl hown hg1 hat (by intro e he; cases he) trivial); have hb7 := (HT5.out.blk.alloc (.cells #[.string ⟨nm.toArray⟩] 9)).grown hg1 (by intro e; have := HNV.out 3 (by omega) b e.symm; have := HBB.out; omega); have k7 := hb7.cell 3; have z7 := hb7.frozen 3; simp only [List.getElem?_toArray, List.getElem?_cons_zero, List.getElem?_cons_succ] at k7; have HB7 : Hid (Below b w w7) := Lib.hid (((HB5.out.mono (by have := HBB.out; omega)).alloc (by have := HBB.out; have := HB5.out.size; omega) _).grown hg1 (by have := HBB.out; have := HB5.out.size; simp; omega) (fun g e => by have := HNV.out 3 (by omega) g e; have := HBB.out; omega)); have hk7 : HiKeep N w2 w7 := (HiKeep.below ((Below.refl w2.heap.size w2).alloc (Nat.le_refl _) (.cells #[.string ⟨nm.toArray⟩] 9))).trans (HiKeep.grown hg1 (fun g e => (HNV.out 3 (by omega) g e).2)); have s7 := HSX.out w7 hk7; have s8 := HSX.out _ (hk7.trans (HiKeep.grown (grownBy_set0 w7 b 3 (.slice A7 (rowN t 3 + 1) c7)) (fun g e => by injection e with e; have := HBB.out; omega))); clear hown hg hat hb7 hg1)
            refine hK.out _ _ (by (try dsimp only); first | with_reducible exact s1 | with_reducible exact s2 | with_reducible exact s3 | with_reducible exact s8 | with_reducible exact s7) (fun hHeld => ?_)
            clear hK K
            (try simp only [Act.put, List.setIfInBounds_toArray, List.set_cons_zero, List.set_cons_succ])
            refine wpAnyH_take (i := 10) (v := ?v107) (by simp only [List.getElem?_toArray, List.getElem?_cons_succ, List.getElem?_cons_zero]; rfl) (by kernel_rfl) (by kernel_rfl) (by kernel_rfl) (by exact fun _ _ _ h => h) (Or.inl ⟨by rfl, ?y107⟩) hHeld ?r107
            case y107 => (intro w hSw; (try dsimp only at hSw); go_simp <;> with_reducible rfl)
            (try simp only [Act.put, List.setIfInBounds_toArray, List.set_cons_zero, List.set_cons_succ])
            refine wpAnyH_take (i := 11) (v := ?v108) (by simp only [List.getElem?_toArray, List.getElem?_cons_succ, List.getElem?_cons_zero]; rfl) (by kernel_rfl) (by kernel_rfl) (by kernel_rfl) (by exact fun _ _ _ h => h) (Or.inl ⟨by rfl, ?y108⟩) hHeld ?r108
            case y108 => (intro w hSw; (try dsimp only at hSw); go_simp <;> with_reducible rfl)
            (try simp only [Act.put, List.setIfInBounds_toArray, List.set_cons_zero, List.set_cons_succ])
            refine wpAnyH_ready (rs := [12]) (by kernel_rfl) (by simp) ?_
            refine AllReadyH.cons (by simp only [List.getElem?_toArray, List.getElem?_cons_succ, List.getElem?_cons_zero]; rfl) (fun K hK => ?_) AllReadyH.nil
            clear hHeld
            go_simp
            refine hK.out _ _ (by (try dsimp only); first | with_reducible exact s1 | with_reducible exact s2 | with_reducible exact s3 | with_reducible exact s8 | with_reducible exact s7) (fun hHeld => ?_)
            clear hK K
            (try simp only [Act.put, List.setIfInBounds_toArray, List.set_cons_zero, List.set_cons_succ])
            clear hHeld
            refine wpAnyH_done (by kernel_rfl) ?_ _
            have HB8 := Lib.hid (HB7.out.setCell (Nat.le_refl b) (.slice A7 (rowN t 3 + 1) c7) (p := ⟨b, 3, none⟩))
            clear HB7 k7 z7 hk7 s1 s2 s3 s7 s8 r0 ra HSX
            generalize w7.setCell ⟨b, 3, none⟩ (.slice A7 (rowN t 3 + 1) c7) = w8 at *
            go_wp2_with fail
            go_ret
            exact radd_yes HB8.out HITM.out (by simp [Item.group]) HT8.out
        · have q9 : ((ns.length : Int) == 0) = false := by rw [beq_eq_false_iff_ne]; omega
          have HNO : Hid (itemI wFut (nm :: qs) = none) := Lib.hid (by rw [HIT.out]; exact nb_future hlen)
          clear hlen hmm
          go_wp2_with fail
          go_ret
          exact radd_no HB2.out (by have := HBB.out; omega) HNO.out
end Go.Proofs.YtmnjmegejaejlaaDoor
