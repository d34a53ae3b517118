/-
  WALK: (*formula.reader).numbers.
-/
import Derived.Test.YtfffalfnjficaaaDoorRNext
import Derived.Test.YtfffalfnjficaaaDoorAtoi
import Derived.Test.YtfffalfnjficaaaDoorMake
import Derived.Test.YtfffalfnjficaaaDoorNumsL
namespace Go.Proofs.YtfffalfnjficaaaDoor
open Go.RowKit

/-- What numbers returns, or that it panics. -/
def NumsRet (w : World) (r : Option (List Int)) (e : Ending) (w' : World) : Prop :=
  (∃ ns g, r = some ns ∧ e = .returned (.slice (some ⟨g, 0, none⟩) ns.length ns.length) ∧ w.heap.size ≤ g ∧ Blk w' g 3 (rowI ns) ∧ (∀ v ∈ ns, I64 v) ∧ Below w.heap.size w w') ∨ (r = none ∧ e = wrongL ∧ Below w.heap.size w w')
set_option maxRecDepth 100000 in
set_option maxHeartbeats 4000000 in
theorem nums_any (rv : Value) (A : Option Addr) (n c : Nat) (h0 : List UInt8) (ps : List (List UInt8)) (word : List UInt8) (count : Nat) (w : World) (h : Txts w (.slice A n c) (h0 :: ps)) (hn : n = ps.length + 1) (hlen : n ≤ 1000000) (hlp : ∀ p ∈ ps, p.length ≤ 1000000) (hc : count ≤ 1000000) (hp : PL w) :
    Calls Tryd.prog 42 #[rv, .slice A n c, .string ⟨word.toArray⟩, .int .i64 count] w (NumsRet w (numsW word count (h0 :: ps))) := by
  obtain ⟨A', c', e, k1, k2, hrd⟩ := h
  injection e with e1 e2 e3
  subst e1 e3
  rw [← e2] at k1
  obtain ⟨b, off, rfl, hb, hc0⟩ := hrd.at_ (k := 0) (u := .string ⟨h0.toArray⟩) rfl
  rw [Nat.add_zero] at hc0
  have HRD := Lib.hid hrd
  have HLP := Lib.hid hlp
  have HPL := Lib.hid hp
  have hn0 : 0 < n := by omega
  have HN1 := Lib.hid hn
  unfold maxLen at k2
  clear hrd hlp hp e2
  by_cases hw : h0 = word
  · subst hw
    by_cases hcn : ps.length = count
    · have q1 : ((n : Int) != (count : Int) + 1) = false := by rw [hn, hcn]; simp
      obtain ⟨dp, hdp, hda⟩ := cut_fromT (some ⟨b, off, none⟩) n c 1 (by omega) k1
      have ct : ∀ w, (Instr.slice 58 (.slice (some ⟨b, off, none⟩) n c) (some (.int .i64 1)) none none).run Tryd.prog w = .ok (.slice dp count (c - 1)) w := fun w => by
        have e := hdp w
        rw [show n - 1 = count by omega] at e
        exact e
      have HDA : Hid (0 < count → dp = some ⟨b, off + 1, none⟩) := Lib.hid (fun h => by rw [hda (by omega)]; rfl)
      have mk := mk_ints count (by omega)
      have HCN := Lib.hid hcn
      have HNW : Hid (numsW h0 count (h0 :: ps) = ps.mapM canonI) := Lib.hid (if_pos ⟨rfl, hcn⟩)
      have hb1 : Below w.heap.size w (w.alloc (.cells (rowI (List.replicate count 0)) 3)) := by go_grown
      have HBK := Lib.hid (Blk.new w 3 (rowI (List.replicate count 0)))
      have HB1 := Lib.hid hb1
      clear hdp hda hn hcn hb1
      go_enter Tryd.func42, Tryd.ntmps42
      go_wp2_with fail
      clear mk ct q1
      go_loopw [33] (fun jv wr => ∃ (j : Nat) (vs : List Int), j ≤ count ∧ jv = .int .i64 j ∧ Hid ((ps.take j).mapM canonI = some vs) ∧ Hid (Below w.heap.size w wr) ∧ Hid (Blk wr w.heap.size 3 (rowI (vs ++ List.replicate (count - j) 0)))) (fun jv _ => count - (intOf jv).toNat)
      case atStart => exact ⟨0, [], by omega, rfl, Lib.hid rfl, HB1, HBK⟩
      case round =>
        clear HB1 HBK
        obtain ⟨j, vs, hj, rfl, HVS, HB, HBK⟩ := hrel
        have HPW := Lib.hid (HPL.out.below HB.out)
        have HVL : Hid (vs.length = j) := Lib.hid (by have := mapM_len HVS.out; rw [this, List.length_take]; have := HCN.out; omega)
        by_cases hjl : j < count
        · have lj : (j : Int) < count := by omega
          obtain ⟨p, hp⟩ : ∃ p, ps[j]? = some p := ⟨_, List.getElem?_eq_getElem (by have := HCN.out; omega)⟩
          have hpl := HLP.out p (List.mem_of_getElem? hp)
          obtain rfl := HDA.out (by omega)
          obtain ⟨b', off', eb, hbl, hcp⟩ := (HRD.out.keep HB.out).at_ (k := j + 1) (u := .string ⟨p.toArray⟩) (by rw [List.getElem?_map, List.getElem?_cons_succ, hp]; rfl)
          injection eb with eb
          injection eb with eb1 eb2 _
          subst eb1 eb2
          rw [show off + (j + 1) = off + 1 + j by omega] at hcp
          have HP := Lib.hid hp
          clear hp
          cases hcv : canonI p with
          | some v =>
            obtain ⟨ha, hi, hv1, hv2⟩ := canonI_some hcv
            have HA := Lib.hid ha
            have HI := Lib.hid hi
            have HVS2 := Lib.hid (mapM_take HVS.out HP.out hcv)
            have HV : Hid (I64 v) := Lib.hid ⟨hv1, hv2⟩
            clear ha hi hcv
            go_wp2_with fail
            refine (atoi_ok p v wr HA.out hpl).mono ?_
            rintro e w1 ⟨rfl, hb1⟩
            have HB1 := Lib.hid hb1
            clear hb1
            go_wp2_with fail
            refine (itoa_any v w1 HV.out (HPW.out.below HB1.out).tab).mono ?_
            rintro e w2 ⟨rfl, hb2⟩
            rw [HI.out]
            have hb12 : Below wr.heap.size wr w2 := HB1.out.trans (hb2.mono HB1.out.size)
            have HB2 : Hid (Below w.heap.size w (w2.setCell ⟨w.heap.size, j, none⟩ (.int .i64 v))) := Lib.hid ((HB.out.trans (hb12.mono HB.out.size)).setCell (Nat.le_refl _) _)
            have hbk := HBK.out.keep hb12
            have y0 := hbk.cell j
            rw [rowI_at (x := 0) (by rw [List.getElem?_append_right (by have := HVL.out; omega), HVL.out, Nat.sub_self, List.getElem?_replicate, if_pos (by omega)])] at y0
            have y1 := hbk.frozen j
            have HBK2 : Hid (Blk (w2.setCell ⟨w.heap.size, j, none⟩ (.int .i64 v)) w.heap.size 3 (rowI ((vs ++ [v]) ++ List.replicate (count - (j + 1)) 0))) := Lib.hid (by
              have h := hbk.setI j v
              rw [List.set_append_right _ _ (by have := HVL.out; omega), HVL.out, Nat.sub_self, show count - j = (count - (j + 1)) + 1 by omega, List.replicate_succ, List.set_cons_zero] at h
              rw [List.append_assoc]; exact h)
            clear hb2 hb12 hbk
            go_wp2_with fail
            go_roundw
            case rel => exact ⟨j + 1, vs ++ [v], by omega, by go_num, HVS2, HB2, HBK2⟩
            case measure => simp [intOf]; omega
          | none =>
            have HNN : Hid (numsW h0 count (h0 :: ps) = none) := Lib.hid (by rw [HNW.out]; exact mapM_bad (List.mem_of_getElem? HP.out) hcv)
            by_cases hok : ∃ v, Lib.atoiAll p = .ok v
            · obtain ⟨v, hat⟩ := hok
              have HNE : Hid (Lib.itoa v ≠ p) := Lib.hid (canonI_bad hat hcv)
              have HV : Hid (I64 v) := Lib.hid (atoi_range hat)
              have HA := Lib.hid hat
              clear hat hcv
              go_wp2_with fail
              refine (atoi_ok p v wr HA.out hpl).mono ?_
              rintro e w1 ⟨rfl, hb1⟩
              have HB1 := Lib.hid hb1
              clear hb1
              go_wp2_with fail
              refine (itoa_any v w1 HV.out (HPW.out.below HB1.out).tab).mono ?_
              rintro e w2 ⟨rfl, hb2⟩
              obtain ⟨s, hs⟩ : ∃ s, s = Lib.itoa v := ⟨_, rfl⟩
              rw [← hs] at HNE ⊢
              have d1 : (s == p) = false := by rw [beq_eq_false_iff_ne]; exact HNE.out
              have hb12 : Below wr.heap.size wr w2 := HB1.out.trans (hb2.mono HB1.out.size)
              have HB2 : Hid (Below w.heap.size w w2) := Lib.hid (HB.out.trans (hb12.mono HB.out.size))
              clear hb2 hb12 hs
              go_wp2_with fail
              exact ⟨rfl, .inr ⟨HNN.out, rfl, HB2.out⟩⟩
            · have HAB : Hid (∀ v, Lib.atoiAll p ≠ .ok v) := Lib.hid (fun v e => hok ⟨v, e⟩)
              clear hok hcv
              go_wp2_with fail
              refine (atoi_bad p wr HAB.out hpl HPW.out).mono ?_
              rintro e w1 ⟨v, N, rfl, -, -, hb1⟩
              have HB2 : Hid (Below w.heap.size w w1) := Lib.hid (HB.out.trans (hb1.mono HB.out.size))
              clear hb1
              go_wp2_with fail
              exact ⟨rfl, .inr ⟨HNN.out, rfl, HB2.out⟩⟩
        · have lj : ¬ (j : Int) < count := by omega
          obtain rfl : j = count := by omega
          have HRS : Hid (NumsRet w (numsW h0 j (h0 :: ps)) (.returned (.slice (some ⟨w.heap.size, 0, none⟩) j j)) wr) := Lib.hid (by
            have h := HVS.out
            rw [List.take_of_length_le (by have := HCN.out; omega)] at h
            have hb := HBK.out
            rw [Nat.sub_self, List.replicate_zero, List.append_nil] at hb
            exact .inl ⟨vs, w.heap.size, by rw [HNW.out, h], by rw [HVL.out], Nat.le_refl _, hb, mapM_i64 h, HB.out⟩)
          go_wp2_with fail
          go_ret
          exact HRS.out
    · have q1 : ((n : Int) != (count : Int) + 1) = true := by rw [bne_iff_ne]; omega
      have HNW : Hid (numsW h0 count (h0 :: ps) = none) := Lib.hid (if_neg (fun h => hcn h.2))
      clear hn hcn
      go_enter Tryd.func42, Tryd.ntmps42
      go_wp2_with fail
      exact ⟨rfl, .inr ⟨HNW.out, rfl, Below.refl _ _⟩⟩
  · have e1 : (h0 == word) = false := by rw [beq_eq_false_iff_ne]; exact hw
    have HN : Hid (numsW word count (h0 :: ps) = none) := Lib.hid (if_neg (fun h => hw h.1))
    clear hw hn
    go_enter Tryd.func42, Tryd.ntmps42
    go_wp2_with fail
    exact ⟨rfl, .inr ⟨HN.out, rfl, Below.refl _ _⟩⟩
end Go.Proofs.YtfffalfnjficaaaDoor
