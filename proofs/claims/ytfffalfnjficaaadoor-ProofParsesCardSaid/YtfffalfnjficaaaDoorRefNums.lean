/-
  WALKS: interleaveref31.Numbers, interleaveref31.Lines.
-/
import Derived.Test.YtfffalfnjficaaaDoorNumsL
import Derived.Test.YtfffalfnjficaaaDoorAtoi
import Derived.Test.YtfffalfnjficaaaDoorWordsRef
import Derived.Test.YtfffalfnjficaaaDoorMake
namespace Go.Proofs.YtfffalfnjficaaaDoor
open Go.RowKit

/-- What Atoi answers: the number, if the text is a number's text. -/
theorem atoi_any (p : List UInt8) (w : World) (hl : p.length ≤ 1000000) (hp : PL w) : Calls Tryd.prog 46 #[.string ⟨p.toArray⟩] w fun e w' =>
    ∃ v ev, e = .returned (.tuple #[.int .i64 v, ev]) ∧ I64 v ∧ Below w.heap.size w w' ∧ ((canonI p = some v ∧ Lib.itoa v = p) ∨ (canonI p = none ∧ Lib.itoa v ≠ p)) := by
  cases hcv : canonI p with
  | some v =>
    obtain ⟨ha, hi, hv1, hv2⟩ := canonI_some hcv
    refine (atoi_ok p v w ha hl).mono ?_
    rintro e w' ⟨rfl, hb⟩
    exact ⟨v, _, rfl, ⟨hv1, hv2⟩, hb, .inl ⟨rfl, hi⟩⟩
  | none =>
    by_cases h : ∃ v, Lib.atoiAll p = .ok v
    · obtain ⟨v, h⟩ := h
      refine (atoi_ok p v w h hl).mono ?_
      rintro e w' ⟨rfl, hb⟩
      exact ⟨v, _, rfl, atoi_range h, hb, .inr ⟨rfl, canonI_bad h hcv⟩⟩
    · refine (atoi_bad p w (fun v e => h ⟨v, e⟩) hl hp).mono ?_
      rintro e w' ⟨v, N, rfl, hn, hi, hb⟩
      exact ⟨v, _, rfl, hi, hb, .inr ⟨rfl, hn⟩⟩

/-- What Numbers answers. -/
def NumbersRet (w : World) (r : Option (List Int)) (e : Ending) (w' : World) : Prop :=
  Below w.heap.size w w' ∧ ((r = none ∧ e = .returned (.tuple #[.slice none 0 0, .bool false])) ∨ ∃ ns v, r = some ns ∧ e = .returned (.tuple #[v, .bool true]) ∧ Own w' w.heap.size v ns)

theorem prefix_eq (a b : List UInt8) : Lib.hasPrefix a b = decide (b <+: a) := by
  unfold Lib.hasPrefix
  by_cases h : b <+: a
  · rw [decide_eq_true h]; exact List.isPrefixOf_iff_prefix.2 h
  · rw [decide_eq_false h]
    cases hb : b.isPrefixOf a with
    | false => rfl
    | true => exact absurd (List.isPrefixOf_iff_prefix.1 hb) h

set_option maxRecDepth 100000 in
set_option maxHeartbeats 4000000 in
/-- Behind the line's check: the numbers of the words. -/
theorem rnumbers_any (line word : List UInt8) (w : World) (hw : (32 : UInt8) ∉ word) (hwl : word.length ≤ 100) (hl : line.length ≤ 900000) (hp : PL w) :
    Calls Tryd.prog 26 #[.string ⟨line.toArray⟩, .string ⟨word.toArray⟩] w (NumbersRet w (numsL word line)) := by
  obtain ⟨iI, hiI, hzI0, hzI1, hzI2⟩ := info_parts info_int
  have HPL := Lib.hid hp
  have HPX : Hid (Calls Tryd.prog 45 #[.string ⟨line.toArray⟩, .string ⟨(word ++ [32]).toArray⟩] w fun e w' => e = .returned (.bool (decide ((word ++ [32]) <+: line))) ∧ w' = w) := Lib.hid (by
    rw [← prefix_eq]
    exact Tryd.strings_HasPrefix ⟨line.toArray⟩ ⟨(word ++ [32]).toArray⟩ w)
  clear hp
  by_cases hpre : line = word ∨ (word ++ [32]) <+: line
  · obtain ⟨ps, hps, hnl⟩ := numsL_some hw hpre
    have HPS := Lib.hid hps
    have HNL := Lib.hid hnl
    have hpl := pieces_len 32 line
    have HPP : Hid (∀ p ∈ ps, p.length ≤ 1000000) := Lib.hid fun p hp => by
      have := (pieces_mem (c := 32) (s := line) (p := p) (by rw [hps]; simp [hp])).2
      omega
    obtain ⟨n, hn⟩ : ∃ n, (pieces 32 line).length = n := ⟨_, rfl⟩
    have hn2 : n = ps.length + 1 := by rw [← hn, hps]; rfl
    have HN := Lib.hid hn
    have hpsl : ps.length ≤ 1000000 := by omega
    rw [hn] at hpl
    have HN2 := Lib.hid hn2
    clear hps hnl hn hn2
    have HQ : Hid ((line == word) = true ∨ ((line == word) = false ∧ decide ((word ++ [32]) <+: line) = true)) := Lib.hid (by
      by_cases h : line = word
      · exact .inl (by simpa using h)
      · exact .inr ⟨by simpa using h, by simpa using hpre.resolve_left h⟩)
    clear hpre
    go_enter Tryd.func26, Tryd.ntmps26
    rcases HQ.out with q1 | ⟨q1, q2⟩
    rotate_left
    · go_wp2_with fail
      rw [show (ByteArray.mk #[32]) = ByteArray.mk [32].toArray from rfl, str_append]
      refine HPX.out.mono ?_
      intro e w1 ⟨he, hw1⟩
      subst he
      rw [hw1, q2]
      clear hw1 w1
      go_wp2_with fail
      clear q1 q2 HQ
      refine (split_any 32 line w (by omega) HPL.out.ml).mono ?_
      rintro e w1 ⟨A, k, rfl, htx, hb1⟩
      rw [HN.out] at htx ⊢
      have htx2 : Txts w1 (.slice A n k) (word :: ps) := by rw [← HPS.out]; exact htx
      obtain ⟨A', c', ex, kx1, kx2, hrd⟩ := htx2
      injection ex with ex1 ex2 ex3
      subst ex1 ex3
      rw [← ex2] at kx1
      have hn0 : 0 < n := by have := HN2.out; omega
      obtain ⟨b, off, rfl, hb, -⟩ := hrd.at_ (k := 0) (u := .string ⟨word.toArray⟩) rfl
      have HRD := Lib.hid hrd
      have HB1 := Lib.hid hb1
      unfold maxLen at kx2
      obtain ⟨dp, hdp, hda⟩ := cut_fromT (some ⟨b, off, none⟩) n k 1 (by have := HN2.out; omega) kx1
      have ct : ∀ w, (Instr.slice 58 (.slice (some ⟨b, off, none⟩) n k) (some (.int .i64 1)) none none).run Tryd.prog w = .ok (.slice dp ps.length (k - 1)) w := fun w => by
        have e := hdp w
        rw [show n - 1 = ps.length by have := HN2.out; omega] at e
        exact e
      have HDA : Hid (0 < ps.length → dp = some ⟨b, off + 1, none⟩) := Lib.hid (fun h => by rw [hda (by have := HN2.out; omega)]; rfl)
      clear htx hb1 hrd ex2 hdp hda
      go_wp2_with fail
      clear ct
      go_loopw [6, 25] (fun o i wr => ∃ (j : Nat) (vs : List Int), j ≤ ps.length ∧ i = .int .i64 j ∧ Hid ((ps.take j).mapM canonI = some vs) ∧ Own wr w1.heap.size o vs ∧ Hid (Below w1.heap.size w1 wr)) (fun _ i _ => ps.length - (intOf i).toNat)
      case atStart => exact ⟨0, [], by omega, rfl, Lib.hid rfl, ⟨World.ownsRow_nil _ _ _ _, by simp⟩, Lib.hid (Below.refl _ _)⟩
      case round =>
        obtain ⟨j, vs, hj, rfl, HVS, how, HBW⟩ := hrel
        have HB : Hid (Below w.heap.size w wr) := Lib.hid (HB1.out.trans (HBW.out.mono HB1.out.size))
        have HO := Lib.hid how
        obtain ⟨Ao, co, ho, -, -, -⟩ := owns_rd how.1
        subst ho
        have hsz := HBW.out.size
        have HVL : Hid (vs.length = j) := Lib.hid (by have := mapM_len HVS.out; rw [this, List.length_take]; omega)
        have HPW := Lib.hid (HPL.out.below HB.out)
        clear how
        by_cases hlt : j < ps.length
        · obtain ⟨p, hp⟩ : ∃ p, ps[j]? = some p := ⟨_, List.getElem?_eq_getElem hlt⟩
          have hpl2 := HPP.out p (List.mem_of_getElem? hp)
          obtain rfl := HDA.out (by omega)
          obtain ⟨b', off', eb, hbl, hcp⟩ := (HRD.out.keep HBW.out).at_ (k := j + 1) (u := .string ⟨p.toArray⟩) (by rw [List.getElem?_map, List.getElem?_cons_succ, hp]; rfl)
          injection eb with eb
          injection eb with eb1 eb2 _
          subst eb1 eb2
          rw [show off + (j + 1) = off + 1 + j by omega] at hcp
          have HP := Lib.hid hp
          clear hp
          go_wp2_with fail
          refine (atoi_any p wr hpl2 HPW.out).mono ?_
          rintro e w2 ⟨v, ev, rfl, hv, hb2, hcase⟩
          have HV := Lib.hid hv
          have HB2 := Lib.hid hb2
          have HC := Lib.hid hcase
          clear hv hb2 hcase
          go_wp2_with fail
          refine (itoa_any v w2 HV.out (HPW.out.below HB2.out).tab).mono ?_
          rintro e w3 ⟨rfl, hb3⟩
          have HB3 := Lib.hid (HB2.out.trans (hb3.mono HB2.out.size))
          have HO3 : Hid (Own w3 w1.heap.size (.slice Ao vs.length co) vs) := Lib.hid ⟨owns_keep HO.out.1 HB3.out, HO.out.2⟩
          have HBB3 : Hid (Below w.heap.size w w3) := Lib.hid (HB.out.trans (HB3.out.mono HB.out.size))
          have HBX3 : Hid (Below w1.heap.size w1 w3) := Lib.hid (HBW.out.trans (HB3.out.mono HBW.out.size))
          have hsz3 := HBX3.out.size
          clear hb3 hcp
          rcases HC.out with ⟨hc, he⟩ | ⟨hc, hne⟩
          · rw [he]
            have HVS2 := Lib.hid (mapM_take HVS.out HP.out hc)
            clear hc he
            go_wp2_with (at_builtin; refine wpList_append_own_at _ rfl _ _ 49 rfl w1.heap.size 3 iI (.int .i64 0) 1 8 Tryd.underlying49 hiI hzI0 hzI1 hzI2 rfl (by decide) _ _ _ rfl (HO3.out.1.alloc _) ⟨w3.heap.size, 0, none⟩ 1 1 [.int .i64 v] rfl rfl ?a1 ?a2 ?a3 ?a4 ?a5 ?_)
            case a1 => exact one_at w3 _ _
            case a2 => intro u hu; simp at hu; subst hu; rfl
            case a3 => have := HVL.out; unfold maxLen; omega
            case a4 => have := HVL.out; omega
            case a5 => simp; omega
            intro v' w4 hown' hgrow _ hat
            have HO4 : Hid (Own w4 w1.heap.size v' (vs ++ [v])) := Lib.hid ⟨by simpa using hown', fun z hz => by
              rcases List.mem_append.1 hz with hz | hz
              · exact HO.out.2 z hz
              · rw [List.mem_singleton] at hz; subst hz; exact HV.out⟩
            have HX4 : Hid (Below w1.heap.size w1 w4) := Lib.hid ((HBX3.out.alloc hsz3 _).grown hgrow (by simp; omega) (fun g hg => (HO3.out.1.lt g hg).1))
            clear hown' hgrow hat
            go_wp2_with fail
            go_roundw
            case rel => exact ⟨j + 1, vs ++ [v], by omega, by go_num, HVS2, HO4.out, HX4⟩
            case measure => simp [intOf]; omega
          · have HNN : Hid (numsL word line = none) := Lib.hid (by rw [HNL.out]; exact mapM_bad (List.mem_of_getElem? HP.out) hc)
            obtain ⟨s, hs⟩ : ∃ s, s = Lib.itoa v := ⟨_, rfl⟩
            rw [← hs] at hne ⊢
            have d1 : (s == p) = false := by rw [beq_eq_false_iff_ne]; exact hne
            clear hc hne hs
            go_wp2_with fail
            go_ret2
            exact ⟨HBB3.out, .inl ⟨HNN.out, rfl⟩⟩
        · have HRS : Hid (numsL word line = some vs) := Lib.hid (by
            have h := HVS.out
            rw [List.take_of_length_le (by omega)] at h
            rw [HNL.out, h])
          go_wp2_with fail
          go_ret2
          exact ⟨HB.out, .inr ⟨vs, _, HRS.out, rfl, ⟨owns_base HO.out.1 HB1.out.size, HO.out.2⟩⟩⟩
    · go_wp2_with fail
      clear q1 HQ
      refine (split_any 32 line w (by omega) HPL.out.ml).mono ?_
      rintro e w1 ⟨A, k, rfl, htx, hb1⟩
      rw [HN.out] at htx ⊢
      have htx2 : Txts w1 (.slice A n k) (word :: ps) := by rw [← HPS.out]; exact htx
      obtain ⟨A', c', ex, kx1, kx2, hrd⟩ := htx2
      injection ex with ex1 ex2 ex3
      subst ex1 ex3
      rw [← ex2] at kx1
      have hn0 : 0 < n := by have := HN2.out; omega
      obtain ⟨b, off, rfl, hb, -⟩ := hrd.at_ (k := 0) (u := .string ⟨word.toArray⟩) rfl
      have HRD := Lib.hid hrd
      have HB1 := Lib.hid hb1
      unfold maxLen at kx2
      obtain ⟨dp, hdp, hda⟩ := cut_fromT (some ⟨b, off, none⟩) n k 1 (by have := HN2.out; omega) kx1
      have ct : ∀ w, (Instr.slice 58 (.slice (some ⟨b, off, none⟩) n k) (some (.int .i64 1)) none none).run Tryd.prog w = .ok (.slice dp ps.length (k - 1)) w := fun w => by
        have e := hdp w
        rw [show n - 1 = ps.length by have := HN2.out; omega] at e
        exact e
      have HDA : Hid (0 < ps.length → dp = some ⟨b, off + 1, none⟩) := Lib.hid (fun h => by rw [hda (by have := HN2.out; omega)]; rfl)
      clear htx hb1 hrd ex2 hdp hda
      go_wp2_with fail
      clear ct
      go_loopw [6, 25] (fun o i wr => ∃ (j : Nat) (vs : List Int), j ≤ ps.length ∧ i = .int .i64 j ∧ Hid ((ps.take j).mapM canonI = some vs) ∧ Own wr w1.heap.size o vs ∧ Hid (Below w1.heap.size w1 wr)) (fun _ i _ => ps.length - (intOf i).toNat)
      case atStart => exact ⟨0, [], by omega, rfl, Lib.hid rfl, ⟨World.ownsRow_nil _ _ _ _, by simp⟩, Lib.hid (Below.refl _ _)⟩
      case round =>
        obtain ⟨j, vs, hj, rfl, HVS, how, HBW⟩ := hrel
        have HB : Hid (Below w.heap.size w wr) := Lib.hid (HB1.out.trans (HBW.out.mono HB1.out.size))
        have HO := Lib.hid how
        obtain ⟨Ao, co, ho, -, -, -⟩ := owns_rd how.1
        subst ho
        have hsz := HBW.out.size
        have HVL : Hid (vs.length = j) := Lib.hid (by have := mapM_len HVS.out; rw [this, List.length_take]; omega)
        have HPW := Lib.hid (HPL.out.below HB.out)
        clear how
        by_cases hlt : j < ps.length
        · obtain ⟨p, hp⟩ : ∃ p, ps[j]? = some p := ⟨_, List.getElem?_eq_getElem hlt⟩
          have hpl2 := HPP.out p (List.mem_of_getElem? hp)
          obtain rfl := HDA.out (by omega)
          obtain ⟨b', off', eb, hbl, hcp⟩ := (HRD.out.keep HBW.out).at_ (k := j + 1) (u := .string ⟨p.toArray⟩) (by rw [List.getElem?_map, List.getElem?_cons_succ, hp]; rfl)
          injection eb with eb
          injection eb with eb1 eb2 _
          subst eb1 eb2
          rw [show off + (j + 1) = off + 1 + j by omega] at hcp
          have HP := Lib.hid hp
          clear hp
          go_wp2_with fail
          refine (atoi_any p wr hpl2 HPW.out).mono ?_
          rintro e w2 ⟨v, ev, rfl, hv, hb2, hcase⟩
          have HV := Lib.hid hv
          have HB2 := Lib.hid hb2
          have HC := Lib.hid hcase
          clear hv hb2 hcase
          go_wp2_with fail
          refine (itoa_any v w2 HV.out (HPW.out.below HB2.out).tab).mono ?_
          rintro e w3 ⟨rfl, hb3⟩
          have HB3 := Lib.hid (HB2.out.trans (hb3.mono HB2.out.size))
          have HO3 : Hid (Own w3 w1.heap.size (.slice Ao vs.length co) vs) := Lib.hid ⟨owns_keep HO.out.1 HB3.out, HO.out.2⟩
          have HBB3 : Hid (Below w.heap.size w w3) := Lib.hid (HB.out.trans (HB3.out.mono HB.out.size))
          have HBX3 : Hid (Below w1.heap.size w1 w3) := Lib.hid (HBW.out.trans (HB3.out.mono HBW.out.size))
          have hsz3 := HBX3.out.size
          clear hb3 hcp
          rcases HC.out with ⟨hc, he⟩ | ⟨hc, hne⟩
          · rw [he]
            have HVS2 := Lib.hid (mapM_take HVS.out HP.out hc)
            clear hc he
            go_wp2_with (at_builtin; refine wpList_append_own_at _ rfl _ _ 49 rfl w1.heap.size 3 iI (.int .i64 0) 1 8 Tryd.underlying49 hiI hzI0 hzI1 hzI2 rfl (by decide) _ _ _ rfl (HO3.out.1.alloc _) ⟨w3.heap.size, 0, none⟩ 1 1 [.int .i64 v] rfl rfl ?a1 ?a2 ?a3 ?a4 ?a5 ?_)
            case a1 => exact one_at w3 _ _
            case a2 => intro u hu; simp at hu; subst hu; rfl
            case a3 => have := HVL.out; unfold maxLen; omega
            case a4 => have := HVL.out; omega
            case a5 => simp; omega
            intro v' w4 hown' hgrow _ hat
            have HO4 : Hid (Own w4 w1.heap.size v' (vs ++ [v])) := Lib.hid ⟨by simpa using hown', fun z hz => by
              rcases List.mem_append.1 hz with hz | hz
              · exact HO.out.2 z hz
              · rw [List.mem_singleton] at hz; subst hz; exact HV.out⟩
            have HX4 : Hid (Below w1.heap.size w1 w4) := Lib.hid ((HBX3.out.alloc hsz3 _).grown hgrow (by simp; omega) (fun g hg => (HO3.out.1.lt g hg).1))
            clear hown' hgrow hat
            go_wp2_with fail
            go_roundw
            case rel => exact ⟨j + 1, vs ++ [v], by omega, by go_num, HVS2, HO4.out, HX4⟩
            case measure => simp [intOf]; omega
          · have HNN : Hid (numsL word line = none) := Lib.hid (by rw [HNL.out]; exact mapM_bad (List.mem_of_getElem? HP.out) hc)
            obtain ⟨s, hs⟩ : ∃ s, s = Lib.itoa v := ⟨_, rfl⟩
            rw [← hs] at hne ⊢
            have d1 : (s == p) = false := by rw [beq_eq_false_iff_ne]; exact hne
            clear hc hne hs
            go_wp2_with fail
            go_ret2
            exact ⟨HBB3.out, .inl ⟨HNN.out, rfl⟩⟩
        · have HRS : Hid (numsL word line = some vs) := Lib.hid (by
            have h := HVS.out
            rw [List.take_of_length_le (by omega)] at h
            rw [HNL.out, h])
          go_wp2_with fail
          go_ret2
          exact ⟨HB.out, .inr ⟨vs, _, HRS.out, rfl, ⟨owns_base HO.out.1 HB1.out.size, HO.out.2⟩⟩⟩
  · have h1 : line ≠ word := fun e => hpre (.inl e)
    have h2 : ¬ (word ++ [32]) <+: line := fun e => hpre (.inr e)
    have HN : Hid (numsL word line = none) := Lib.hid (numsL_none hw h1 h2)
    have q1 : (line == word) = false := by simpa using h1
    have q2 : decide ((word ++ [32]) <+: line) = false := by simpa using h2
    clear hpre h1 h2
    go_enter Tryd.func26, Tryd.ntmps26
    go_wp2_with fail
    rw [show (ByteArray.mk #[32]) = ByteArray.mk [32].toArray from rfl, str_append]
    refine HPX.out.mono ?_
    intro e w1 ⟨he, hw1⟩
    subst he
    rw [hw1, q2]
    clear hw1 w1
    go_wp2_with fail
    go_ret2
    exact ⟨Below.refl _ _, .inl ⟨HN.out, rfl⟩⟩
theorem rnums_no {line word : List UInt8} {w : World} (h : numsL word line = none) (hw : (32 : UInt8) ∉ word) (hwl : word.length ≤ 100) (hl : line.length ≤ 900000) (hp : PL w) :
    Calls Tryd.prog 26 #[.string ⟨line.toArray⟩, .string ⟨word.toArray⟩] w fun e w' => e = .returned (.tuple #[.slice none 0 0, .bool false]) ∧ Below w.heap.size w w' := by
  refine (rnumbers_any line word w hw hwl hl hp).mono fun e w' h2 => ?_
  obtain ⟨hb, ⟨_, he⟩ | ⟨ns, v, h3, _⟩⟩ := h2
  · exact ⟨he, hb⟩
  · rw [h] at h3; cases h3
theorem rnums_yes {line word : List UInt8} {ns : List Int} {w : World} (h : numsL word line = some ns) (hw : (32 : UInt8) ∉ word) (hwl : word.length ≤ 100) (hl : line.length ≤ 900000) (hp : PL w) :
    Calls Tryd.prog 26 #[.string ⟨line.toArray⟩, .string ⟨word.toArray⟩] w fun e w' => ∃ A c, e = .returned (.tuple #[.slice A ns.length c, .bool true]) ∧ Own w' w.heap.size (.slice A ns.length c) ns ∧ Below w.heap.size w w' := by
  refine (rnumbers_any line word w hw hwl hl hp).mono fun e w' h2 => ?_
  obtain ⟨hb, ⟨h3, _⟩ | ⟨ns', v, h3, he, ho⟩⟩ := h2
  · rw [h] at h3; cases h3
  · rw [h] at h3; injection h3 with h3; subst h3
    obtain ⟨A, c, rfl, _⟩ := owns_rd ho.1
    exact ⟨A, c, he, ho, hb⟩
theorem own_cells {w : World} {base n c : Nat} {A : Option Addr} {ns : List Int} (h : Own w base (.slice A n c) ns) (h0 : 0 < ns.length) : ∃ g, A = some ⟨g, 0, none⟩ ∧ base ≤ g ∧ g < w.heap.size ∧ ∀ (j : Nat) (x : Int), ns[j]? = some x → w.cell? ⟨g, j, none⟩ = some (.int .i64 x) := by
  have hn : n = ns.length := by
    rcases owns_shape h.1 with ⟨e, e2, _⟩ | ⟨g, cap, e⟩
    · rw [e2] at h0; exact absurd h0 (Nat.lt_irrefl 0)
    · injection e
  subst hn
  rcases owns_shape h.1 with ⟨_, e2, _⟩ | ⟨g, cap, e⟩
  · rw [e2] at h0; exact absurd h0 (Nat.lt_irrefl 0)
  · injection e with e1 _ e3
    subst e1 e3
    obtain ⟨h1, h2, _, _, h5⟩ := rd_of_row h.1
    exact ⟨g, rfl, h1, h2, fun j x hx => by have := h5 j (.int .i64 x) (by rw [List.getElem?_map, hx]; rfl); rwa [Nat.zero_add] at this⟩
theorem numsL_len {word line : List UInt8} {ns : List Int} (h : numsL word line = some ns) : ns.length ≤ line.length + 1 := by
  have hp := pieces_len 32 line
  unfold numsL at h
  cases hc : pieces 32 line with
  | nil => rw [hc] at h; cases h
  | cons p ps =>
    rw [hc] at h hp
    simp only at h
    split at h
    · rw [mapM_len h]; simp at hp; omega
    · cases h
end Go.Proofs.YtfffalfnjficaaaDoor
