/-
  WALK: trace.writer's event.
-/
import Derived.Test.YtmnjmegejaejlaaDoorTT42
import Derived.Test.YtmnjmegejaejlaaDoorTT40
namespace Go.Proofs.YtmnjmegejaejlaaDoor
open Go.RowKit

theorem kindW_at {k : Nat} (h : k ≤ 23) : ([] :: kindsL)[k]? = some (kindW (k : Int)) := by
  unfold kindW
  rw [Int.toNat_natCast, List.getElem?_eq_getElem (show k < ([] :: kindsL).length by simp [kindsL]; omega)]
  rfl
theorem strV_snoc (ps : List (List UInt8)) (p : List UInt8) : strV (ps ++ [p]) = strV ps ++ [.string ⟨p.toArray⟩] := by simp [strV]
theorem one_str (p : List UInt8) : ∀ u ∈ ([.string ⟨p.toArray⟩] : List Value), u.oneCell' = true := by intro u hu; simp at hu; subst hu; rfl
theorem txts_row {w : World} {base m c : Nat} {A : Option Addr} {ps r : List (List UInt8)} {h : List UInt8} (ho : w.ownsRow base 9 1 (.slice A m c) ps.length (strV ps)) (e : ps = h :: r) : Txts w (.slice A (r.length + 1) c) (h :: r) := by
  subst e
  obtain ⟨A', c', e, h1, h2, h3⟩ := owns_rd ho
  injection e with e1 _ e3
  subst e1 e3
  exact ⟨_, _, rfl, h1, h2, h3⟩
theorem numsP_len (w : List UInt8) (l : List Int) : (numsP w l).length ≤ l.length + 1 := by
  unfold numsP; split <;> simp
theorem row_of {w : World} {base : Nat} (cs : List (List UInt8)) (hb : base ≤ w.heap.size) (hm : cs.length ≤ maxLen) (vs : Array Value) (hv : vs = (strV cs).toArray) : (w.alloc (.cells vs 9)).ownsRow base 9 1 (.slice (some ⟨w.heap.size, 0, none⟩) cs.length cs.length) cs.length (strV cs) := by
  subst hv
  have := World.ownsRow_lit (base := base) (e := 9) (size := 1) w (strV cs).toArray cs.length hb hm (by simp [strV])
  simpa using this
theorem map_take_snoc {l : List Int} {k : Nat} {x : Int} (h : l[k]? = some x) (ps : List (List UInt8)) : (ps ++ (l.take k).map Lib.itoa) ++ [Lib.itoa x] = ps ++ (l.take (k + 1)).map Lib.itoa := by
  rw [take_succ_of h, List.map_append, List.append_assoc]; rfl
set_option maxRecDepth 100000 in
set_option maxHeartbeats 16000000 in
theorem wevent_any (B b : Nat) (l : List UInt8) (th ob va si : Int) (k : Nat) (dp fr : List Int) (A1 A2 : Option Addr) (c1 c2 : Nat) (w : World) (hw : WrAt B b l w) (hp : PT w) (hk1 : 1 ≤ k) (hk2 : k ≤ 23) (i0 : I64 th) (i2 : I64 ob) (i3 : I64 va) (i4 : I64 si)
    (h1 : Ints w (.slice A1 dp.length c1) dp) (h2 : Ints w (.slice A2 fr.length c2) fr) (hn : dp.length + fr.length ≤ 1000000000) (hlen : l.length + (lineT (.event ⟨th, k, ob, va, si, dp, fr⟩)).length ≤ 140737488355328) (hBw : B ≤ w.heap.size) :
    Calls Tryd.prog 25 #[.pointer (some ⟨b, 0, none⟩), .agg #[.int .i64 th, .int .i64 (k : Int), .int .i64 ob, .int .i64 va, .int .i64 si, .slice A1 dp.length c1, .slice A2 fr.length c2]] w fun e w' => e = .returned (.tuple #[]) ∧ WrAt B b (l ++ lineT (.event ⟨th, k, ob, va, si, dp, fr⟩)) w' ∧ Kept B b w w' := by
  obtain ⟨iI, hiI, hzI0, hzI1, hzI2⟩ := info_parts info_str
  have hb1 : Below w.heap.size w (w.alloc (.cells #[.int .i64 th, .int .i64 (k : Int), .int .i64 ob, .int .i64 va, .int .i64 si, .slice A1 dp.length c1, .slice A2 fr.length c2] 53)) := (Below.refl _ _).alloc (Nat.le_refl _) _
  have HX := Lib.hid (Blk.new w 53 #[.int .i64 th, .int .i64 (k : Int), .int .i64 ob, .int .i64 va, .int .i64 si, .slice A1 dp.length c1, .slice A2 fr.length c2])
  have HB1 := Lib.hid hb1
  have HPW := Lib.hid (hp.below hb1)
  have HI1 := Lib.hid (h1.keep hb1)
  have HI2 := Lib.hid (h2.keep hb1)
  have HWR := Lib.hid hw
  have HN := Lib.hid hn
  have HLEN := Lib.hid hlen
  have HBW := Lib.hid hBw
  have HJ : Hid (I64 th ∧ I64 ob ∧ I64 va ∧ I64 si) := Lib.hid ⟨i0, i2, i3, i4⟩
  have HKK : Hid (1 ≤ k ∧ k ≤ 23) := Lib.hid ⟨hk1, hk2⟩
  have HLI : Hid (∀ (A : Option Addr) (c : Nat) (W' : World), Below w.heap.size w W' → Txts W' (.slice A ((Item.event ⟨th, k, ob, va, si, dp, fr⟩).args.length + 1) c) (wEvent :: (Item.event ⟨th, k, ob, va, si, dp, fr⟩).args) → Calls Tryd.prog 22 #[.pointer (some ⟨b, 0, none⟩), .slice A ((Item.event ⟨th, k, ob, va, si, dp, fr⟩).args.length + 1) c] W' fun e w' => e = .returned (.tuple #[]) ∧ WrAt B b (l ++ lineT (.event ⟨th, k, ob, va, si, dp, fr⟩)) w' ∧ Kept B b w w') := Lib.hid (fun A c W' hb ht => by
    refine (wline_any B b l A c wEvent (Item.event ⟨th, k, ob, va, si, dp, fr⟩).args W' (hw.keep hb) ht (by have := hlen; simp only [lineT, Item.head, List.length_append, List.length_cons, List.length_nil] at this ⊢; omega) (by have := hb.size; omega)).mono ?_
    rintro e w' ⟨rfl, h1, h2⟩
    exact ⟨rfl, h1, (Kept.of_below hb hBw).trans h2⟩)
  have HAR : Hid ((Item.event ⟨th, k, ob, va, si, dp, fr⟩).args = [Lib.itoa th, kindW k, Lib.itoa ob, Lib.itoa va, Lib.itoa si] ++ (numsP wDeps dp ++ numsP wFrom fr)) := Lib.hid rfl
  generalize (Item.event ⟨th, k, ob, va, si, dp, fr⟩).args = ar at *
  clear hb1 hp h1 h2 hw hn hlen hBw i0 i2 i3 i4
  go_enter Tryd.func25, Tryd.ntmps25
  go_upto_region 2 with fail
  generalize w.alloc (.cells #[.int .i64 th, .int .i64 (k : Int), .int .i64 ob, .int .i64 va, .int .i64 si, .slice A1 dp.length c1, .slice A2 fr.length c2] 53) = W at *
  have HXB : Hid (w.heap.size < W.heap.size) := Lib.hid HX.out.lt
  generalize hxb : w.heap.size = xb at *
  have p0 := HX.out.cell 0
  have p1 := HX.out.cell 1
  have p2 := HX.out.cell 2
  have p3 := HX.out.cell 3
  have p4 := HX.out.cell 4
  simp only [List.getElem?_toArray, List.getElem?_cons_zero, List.getElem?_cons_succ] at p0 p1 p2 p3 p4
  have q1 : (0 : Int) < (k : Int) := by omega
  have q1n : 0 < k := hk1
  have q2 : (k : Int) < 24 := by omega
  have q2n : k < 24 := by omega
  have hkd := HPW.out.kd k _ (kindW_at hk2)
  have HC : Hid (∀ w', Below W.heap.size W w' → w'.cell? ⟨xb, 0, none⟩ = some (.int .i64 th) ∧ w'.cell? ⟨xb, 2, none⟩ = some (.int .i64 ob) ∧ w'.cell? ⟨xb, 3, none⟩ = some (.int .i64 va) ∧ w'.cell? ⟨xb, 4, none⟩ = some (.int .i64 si)) := Lib.hid (fun w' h => ⟨(h.cell (p := ⟨xb, 0, none⟩) HXB.out).trans p0, (h.cell (p := ⟨xb, 2, none⟩) HXB.out).trans p2, (h.cell (p := ⟨xb, 3, none⟩) HXB.out).trans p3, (h.cell (p := ⟨xb, 4, none⟩) HXB.out).trans p4⟩)
  have HIT : Hid (∀ (n : Int), I64 n → ∀ w', Below W.heap.size W w' → Calls Tryd.prog 23 #[.int .i64 n] w' fun e w2 => e = .returned (.string ⟨(Lib.itoa n).toArray⟩) ∧ Below w'.heap.size w' w2) := Lib.hid (fun n hn w' h => itoa_any n w' hn (HPW.out.below h).tab)
  have HFI : Hid (∀ w', Below W.heap.size W w' → Calls Tryd.prog 24 #[.int .i64 va, .int .i64 10] w' fun e w2 => e = .returned (.string ⟨(Lib.itoa va).toArray⟩) ∧ Below w'.heap.size w' w2) := Lib.hid (fun w' h => fint_any va w' HJ.out.2.2.1 (HPW.out.below h).tab)
  clear hk1 hk2
  go_upto_region 4 with fail
  have hx0 := (Below.refl W.heap.size W).drew
  have hs0 := HC.out _ hx0
  clear p0 p1 p2 p3 p4 hkd q1 q1n q2 q2n
  go_region_held3 (fun w' => w'.cell? ⟨xb, 0, none⟩ = some (.int .i64 th) ∧ w'.cell? ⟨xb, 2, none⟩ = some (.int .i64 ob) ∧ w'.cell? ⟨xb, 3, none⟩ = some (.int .i64 va) ∧ w'.cell? ⟨xb, 4, none⟩ = some (.int .i64 si)) (with_reducible assumption) (first
    | (go_at_call 23; refine (HIT.out th HJ.out.1 _ hx0).mono ?_; rintro e w1 ⟨rfl, hb1⟩; have hx1 := hx0.trans (hb1.mono hx0.size); have hs1 := HC.out w1 hx1)
    | (go_at_call 23; refine (HIT.out ob HJ.out.2.1 _ hx1).mono ?_; rintro e w2 ⟨rfl, hb2⟩; have hx2 := hx1.trans (hb2.mono hx1.size); have hs2 := HC.out w2 hx2)
    | (go_at_call 24; refine (HFI.out _ hx2).mono ?_; rintro e w3 ⟨rfl, hb3⟩; have hx3 := hx2.trans (hb3.mono hx2.size); have hs3 := HC.out w3 hx3)
    | (go_at_call 23; refine (HIT.out si HJ.out.2.2.2 _ hx3).mono ?_; rintro e w4 ⟨rfl, hb4⟩; have hx4 := hx3.trans (hb4.mono hx3.size); have hs4 := HC.out w4 hx4; have hs5 := HC.out _ (hx4.alloc hx4.size (.cells #[.string ⟨#[101, 118, 101, 110, 116]⟩, .string ⟨(Lib.itoa th).toArray⟩, .string ⟨(kindW k).toArray⟩, .string ⟨(Lib.itoa ob).toArray⟩, .string ⟨(Lib.itoa va).toArray⟩, .string ⟨(Lib.itoa si).toArray⟩] 9))))
  have HX5 := Lib.hid (hx4.alloc hx4.size (.cells #[.string ⟨#[101, 118, 101, 110, 116]⟩, .string ⟨(Lib.itoa th).toArray⟩, .string ⟨(kindW k).toArray⟩, .string ⟨(Lib.itoa ob).toArray⟩, .string ⟨(Lib.itoa va).toArray⟩, .string ⟨(Lib.itoa si).toArray⟩] 9))
  have HO5 : Hid ((w4.alloc (.cells #[.string ⟨#[101, 118, 101, 110, 116]⟩, .string ⟨(Lib.itoa th).toArray⟩, .string ⟨(kindW k).toArray⟩, .string ⟨(Lib.itoa ob).toArray⟩, .string ⟨(Lib.itoa va).toArray⟩, .string ⟨(Lib.itoa si).toArray⟩] 9)).ownsRow W.heap.size 9 1 (.slice (some ⟨w4.heap.size, 0, none⟩) 6 6) 6 (strV [wEvent, Lib.itoa th, kindW k, Lib.itoa ob, Lib.itoa va, Lib.itoa si])) := Lib.hid (row_of [wEvent, Lib.itoa th, kindW k, Lib.itoa ob, Lib.itoa va, Lib.itoa si] hx4.size (by simp [maxLen]) _ rfl)
  clear hs0 hs1 hs2 hs3 hs4 hs5 hx0 hx1 hx2 hx3 hx4 hb1 hb2 hb3 hb4 HC
  generalize w4.alloc (.cells #[.string ⟨#[101, 118, 101, 110, 116]⟩, .string ⟨(Lib.itoa th).toArray⟩, .string ⟨(kindW k).toArray⟩, .string ⟨(Lib.itoa ob).toArray⟩, .string ⟨(Lib.itoa va).toArray⟩, .string ⟨(Lib.itoa si).toArray⟩] 9) = w5 at *
  generalize w4.heap.size = g4 at *
  generalize hp0 : [wEvent, Lib.itoa th, kindW k, Lib.itoa ob, Lib.itoa va, Lib.itoa si] = ps0 at *
  have HP0 : Hid (ps0 = [wEvent, Lib.itoa th, kindW k, Lib.itoa ob, Lib.itoa va, Lib.itoa si]) := Lib.hid hp0.symm
  have HP0L : Hid (ps0.length = 6) := Lib.hid (by rw [← hp0]; rfl)
  have HNP1 : Hid (ps0.length ≤ 2000000000) := Lib.hid (by rw [← hp0]; simp)
  have HO0 : Hid (w5.ownsRow W.heap.size 9 1 (.slice (some ⟨g4, 0, none⟩) 6 6) ps0.length (strV ps0)) := by rw [HP0L.out]; exact HO5
  clear hp0 HO5
  have g5 := (HX.out.keep HX5.out).cell 5
  simp only [List.getElem?_toArray, List.getElem?_cons_zero, List.getElem?_cons_succ] at g5
  by_cases hd : dp = []
  · have z0 : ¬ ((0 : Int) < (dp.length : Int)) := by rw [hd]; simp
    have z0n : ¬ (0 < dp.length) := by rw [hd]; simp
    have HQ1 : Hid (ps0 = ps0 ++ numsP wDeps dp) := Lib.hid (by rw [hd]; simp [numsP])
    clear hd
    have HNP2 : Hid (ps0.length ≤ 2000000000) := Lib.hid (by have h1 := HQ1.out; have h2 := congrArg List.length h1; have := numsP_len wDeps dp; have := HN.out; have := HNP1.out; have := HP0L.out; simp at h2; omega)
    have g5 := (HX.out.keep HX5.out).cell 6
    simp only [List.getElem?_toArray, List.getElem?_cons_zero, List.getElem?_cons_succ] at g5
    by_cases hd : fr = []
    · have z0 : ¬ ((0 : Int) < (fr.length : Int)) := by rw [hd]; simp
      have z0n : ¬ (0 < fr.length) := by rw [hd]; simp
      have HQ2 : Hid (ps0 = ps0 ++ numsP wFrom fr) := Lib.hid (by rw [hd]; simp [numsP])
      clear hd
      have HE : Hid (ps0 = wEvent :: ar) := Lib.hid (by rw [HQ2.out, HQ1.out, HP0.out, HAR.out]; simp)
      have HT := Lib.hid (txts_row HO0.out HE.out)
      have hln : ar.length + 1 = 6 := (by have h1 := congrArg List.length HE.out; have h2 := HP0L.out; simp only [List.length_cons] at h1; omega)
      have HB := Lib.hid (HB1.out.trans (HX5.out.mono (by have := HXB.out; omega)))
      have HCL := Lib.hid (HLI.out (some ⟨g4, 0, none⟩) 6 _ HB.out HT.out)
      rw [hln] at HCL
      clear HO0 HIT HFI hln
      go_wp2_with fail
      refine HCL.out.mono ?_
      rintro e w9 ⟨rfl, h8, h9⟩
      go_wp2_with fail
      go_end0
      exact ⟨rfl, h8, h9⟩
    · have z0 : (0 : Int) < (fr.length : Int) := by have := List.length_pos_iff.2 hd; omega
      have z0n : 0 < fr.length := List.length_pos_iff.2 hd
      have HDD : Hid (numsP wFrom fr = wFrom :: fr.map Lib.itoa) := Lib.hid (by unfold numsP; rw [if_neg hd])
      have HON := Lib.hid (one_str wFrom)
      clear hd
      go_wp2_with (at_builtin; refine wpList_append_own_at _ rfl _ _ 25 rfl W.heap.size 9 iI (.string ⟨#[]⟩) 1 16 Tryd.underlying25 hiI hzI0 hzI1 hzI2 rfl (by decide) _ _ _ rfl (HO0.out.alloc _) ⟨w5.heap.size, 0, none⟩ 1 1 [.string ⟨(wFrom).toArray⟩] rfl rfl (one_at w5 _ _) HON.out ?a3 ?a4 ?a5 ?_)
      case a3 => have := HNP2.out; unfold maxLen; omega
      case a4 => have := HNP2.out; omega
      case a5 => have := HX5.out.size; simp; omega
      intro v72 w72 hown hgrow _ _
      have HX72 : Hid (Below W.heap.size W w72) := Lib.hid ((HX5.out.alloc HX5.out.size _).grown hgrow (by have := HX5.out.size; simp; omega) fun k e => (HO0.out.lt k e).1)
      have HO72 : Hid (w72.ownsRow W.heap.size 9 1 v72 ((ps0 ++ [wFrom]) ++ (fr.take 0).map Lib.itoa).length (strV ((ps0 ++ [wFrom]) ++ (fr.take 0).map Lib.itoa))) := Lib.hid (by
        rw [show (ps0 ++ [wFrom]) ++ (fr.take 0).map Lib.itoa = ps0 ++ [wFrom] by simp, strV_snoc]; simpa using hown)
      obtain ⟨A72, c72, e72, -, -, -⟩ := owns_rd hown
      subst e72
      have g7 := (HX.out.keep HX72.out).cell 6
      simp only [List.getElem?_toArray, List.getElem?_cons_zero, List.getElem?_cons_succ] at g7
      have HO7 : Hid (w72.ownsRow W.heap.size 9 1 (.slice A72 (ps0.length + 1) c72) ((ps0 ++ [wFrom]) ++ (fr.take 0).map Lib.itoa).length (strV ((ps0 ++ [wFrom]) ++ (fr.take 0).map Lib.itoa))) := HO72
      clear hown hgrow g5 HO72
      go_wp2_with fail
      go_loopw [5, 66] (fun pv iv wr => ∃ j : Nat, j ≤ fr.length ∧ iv = .int .i64 (j : Int) ∧ Hid (wr.ownsRow W.heap.size 9 1 pv ((ps0 ++ [wFrom]) ++ (fr.take j).map Lib.itoa).length (strV ((ps0 ++ [wFrom]) ++ (fr.take j).map Lib.itoa))) ∧ Hid (Below W.heap.size W wr)) (fun _ iv _ => fr.length - (intOf iv).toNat)
      case atStart => exact ⟨0, by omega, rfl, HO7, HX72⟩
      case round =>
        clear HO7 HX72 g7
        obtain ⟨j, hj, rfl, HOJ, HXJ⟩ := hrel
        obtain ⟨Aj2, cj2, ej2, -, -, -⟩ := owns_rd HOJ.out
        subst ej2
        by_cases hlt : j < fr.length
        · obtain ⟨x, hx⟩ : ∃ x, fr[j]? = some x := ⟨_, List.getElem?_eq_getElem hlt⟩
          obtain ⟨Ai, ci, ei, -, -, hix, hri⟩ := HI2.out.keep HXJ.out
          injection ei with ei1 _ ei3
          subst ei1 ei3
          obtain ⟨b1, o1, rfl, hb1, hc1⟩ := hri.int hx
          have HIX : Hid (I64 x) := Lib.hid (hix x (List.mem_of_getElem? hx))
          have HSN := Lib.hid (map_take_snoc hx (ps0 ++ [wFrom]))
          have HON := Lib.hid (one_str (Lib.itoa x))
          have HLP : Hid (((ps0 ++ [wFrom]) ++ (fr.take j).map Lib.itoa).length ≤ 5000000000) := Lib.hid (by have := HNP2.out; have := HN.out; simp; omega)
          have lj : (j : Int) < (fr.length : Int) := by omega
          have lm : (j : Int) < 4000000000 := by have := HN.out; omega
          clear hx hix hri hb1
          generalize (ps0 ++ [wFrom]) ++ (fr.take j).map Lib.itoa = pj at *
          go_wp2_with fail
          refine (HIT.out x HIX.out _ HXJ.out).mono ?_
          rintro e w8 ⟨rfl, hx8⟩
          have HX8 := Lib.hid (HXJ.out.trans (hx8.mono HXJ.out.size))
          have HO8 := Lib.hid (owns_keep HOJ.out hx8)
          clear hx8 hc1
          go_wp2_with (at_builtin; refine wpList_append_own_at _ rfl _ _ 25 rfl W.heap.size 9 iI (.string ⟨#[]⟩) 1 16 Tryd.underlying25 hiI hzI0 hzI1 hzI2 rfl (by decide) _ _ _ rfl (HO8.out.alloc _) ⟨w8.heap.size, 0, none⟩ 1 1 [.string ⟨(Lib.itoa x).toArray⟩] rfl rfl (one_at w8 _ _) HON.out ?b3 ?b4 ?b5 ?_)
          case b3 => have := HLP.out; unfold maxLen; omega
          case b4 => have := HLP.out; omega
          case b5 => have := HX8.out.size; simp; omega
          intro v9 w9 hown hgrow _ _
          have HX9 : Hid (Below W.heap.size W w9) := Lib.hid ((HX8.out.alloc HX8.out.size _).grown hgrow (by have := HX8.out.size; simp; omega) fun k e => (HO8.out.lt k e).1)
          have HO9 : Hid (w9.ownsRow W.heap.size 9 1 v9 ((ps0 ++ [wFrom]) ++ (fr.take (j + 1)).map Lib.itoa).length (strV ((ps0 ++ [wFrom]) ++ (fr.take (j + 1)).map Lib.itoa))) := Lib.hid (by
            rw [← HSN.out, strV_snoc]; simpa using hown)
          obtain ⟨A9, c9, e9, -, -, -⟩ := owns_rd hown
          subst e9
          clear hown hgrow
          go_wp2_with fail
          go_roundw
          case rel => exact ⟨j + 1, by omega, by go_num, HO9, HX9⟩
          case measure => simp [intOf]; omega
        · obtain rfl : j = fr.length := by omega
          have lj : ¬ ((fr.length : Int) < (fr.length : Int)) := by omega
          rw [List.take_length] at HOJ ⊢
          generalize hq : (ps0 ++ [wFrom]) ++ fr.map Lib.itoa = ps2 at *
          have HQ2 : Hid (ps2 = ps0 ++ numsP wFrom fr) := Lib.hid (by rw [← hq, HDD.out]; simp)
          clear hq hlt hj
          have HE : Hid (ps2 = wEvent :: ar) := Lib.hid (by rw [HQ2.out, HQ1.out, HP0.out, HAR.out]; simp)
          have HT := Lib.hid (txts_row HOJ.out HE.out)
          have hln : ar.length + 1 = ps2.length := (by have h1 := congrArg List.length HE.out; simp only [List.length_cons] at h1; omega)
          have HB := Lib.hid (HB1.out.trans (HXJ.out.mono (by have := HXB.out; omega)))
          have HCL := Lib.hid (HLI.out Aj2 cj2 _ HB.out HT.out)
          rw [hln] at HCL
          clear HOJ HIT HFI hln
          go_wp2_with fail
          refine HCL.out.mono ?_
          rintro e w9 ⟨rfl, h8, h9⟩
          go_wp2_with fail
          go_end0
          exact ⟨rfl, h8, h9⟩
  · have z0 : (0 : Int) < (dp.length : Int) := by have := List.length_pos_iff.2 hd; omega
    have z0n : 0 < dp.length := List.length_pos_iff.2 hd
    have HDD : Hid (numsP wDeps dp = wDeps :: dp.map Lib.itoa) := Lib.hid (by unfold numsP; rw [if_neg hd])
    have HON := Lib.hid (one_str wDeps)
    clear hd
    go_wp2_with (at_builtin; refine wpList_append_own_at _ rfl _ _ 25 rfl W.heap.size 9 iI (.string ⟨#[]⟩) 1 16 Tryd.underlying25 hiI hzI0 hzI1 hzI2 rfl (by decide) _ _ _ rfl (HO0.out.alloc _) ⟨w5.heap.size, 0, none⟩ 1 1 [.string ⟨(wDeps).toArray⟩] rfl rfl (one_at w5 _ _) HON.out ?a3 ?a4 ?a5 ?_)
    case a3 => have := HNP1.out; unfold maxLen; omega
    case a4 => have := HNP1.out; omega
    case a5 => have := HX5.out.size; simp; omega
    intro v71 w71 hown hgrow _ _
    have HX71 : Hid (Below W.heap.size W w71) := Lib.hid ((HX5.out.alloc HX5.out.size _).grown hgrow (by have := HX5.out.size; simp; omega) fun k e => (HO0.out.lt k e).1)
    have HO71 : Hid (w71.ownsRow W.heap.size 9 1 v71 ((ps0 ++ [wDeps]) ++ (dp.take 0).map Lib.itoa).length (strV ((ps0 ++ [wDeps]) ++ (dp.take 0).map Lib.itoa))) := Lib.hid (by
      rw [show (ps0 ++ [wDeps]) ++ (dp.take 0).map Lib.itoa = ps0 ++ [wDeps] by simp, strV_snoc]; simpa using hown)
    obtain ⟨A71, c71, e71, -, -, -⟩ := owns_rd hown
    subst e71
    have g7 := (HX.out.keep HX71.out).cell 5
    simp only [List.getElem?_toArray, List.getElem?_cons_zero, List.getElem?_cons_succ] at g7
    have HO7 : Hid (w71.ownsRow W.heap.size 9 1 (.slice A71 (ps0.length + 1) c71) ((ps0 ++ [wDeps]) ++ (dp.take 0).map Lib.itoa).length (strV ((ps0 ++ [wDeps]) ++ (dp.take 0).map Lib.itoa))) := HO71
    clear hown hgrow g5 HO71
    go_wp2_with fail
    go_loopw [5, 46] (fun pv iv wr => ∃ j : Nat, j ≤ dp.length ∧ iv = .int .i64 (j : Int) ∧ Hid (wr.ownsRow W.heap.size 9 1 pv ((ps0 ++ [wDeps]) ++ (dp.take j).map Lib.itoa).length (strV ((ps0 ++ [wDeps]) ++ (dp.take j).map Lib.itoa))) ∧ Hid (Below W.heap.size W wr)) (fun _ iv _ => dp.length - (intOf iv).toNat)
    case atStart => exact ⟨0, by omega, rfl, HO7, HX71⟩
    case round =>
      clear HO7 HX71 g7
      obtain ⟨j, hj, rfl, HOJ, HXJ⟩ := hrel
      obtain ⟨Aj1, cj1, ej1, -, -, -⟩ := owns_rd HOJ.out
      subst ej1
      by_cases hlt : j < dp.length
      · obtain ⟨x, hx⟩ : ∃ x, dp[j]? = some x := ⟨_, List.getElem?_eq_getElem hlt⟩
        obtain ⟨Ai, ci, ei, -, -, hix, hri⟩ := HI1.out.keep HXJ.out
        injection ei with ei1 _ ei3
        subst ei1 ei3
        obtain ⟨b1, o1, rfl, hb1, hc1⟩ := hri.int hx
        have HIX : Hid (I64 x) := Lib.hid (hix x (List.mem_of_getElem? hx))
        have HSN := Lib.hid (map_take_snoc hx (ps0 ++ [wDeps]))
        have HON := Lib.hid (one_str (Lib.itoa x))
        have HLP : Hid (((ps0 ++ [wDeps]) ++ (dp.take j).map Lib.itoa).length ≤ 5000000000) := Lib.hid (by have := HNP1.out; have := HN.out; simp; omega)
        have lj : (j : Int) < (dp.length : Int) := by omega
        have lm : (j : Int) < 4000000000 := by have := HN.out; omega
        clear hx hix hri hb1
        generalize (ps0 ++ [wDeps]) ++ (dp.take j).map Lib.itoa = pj at *
        go_wp2_with fail
        refine (HIT.out x HIX.out _ HXJ.out).mono ?_
        rintro e w8 ⟨rfl, hx8⟩
        have HX8 := Lib.hid (HXJ.out.trans (hx8.mono HXJ.out.size))
        have HO8 := Lib.hid (owns_keep HOJ.out hx8)
        clear hx8 hc1
        go_wp2_with (at_builtin; refine wpList_append_own_at _ rfl _ _ 25 rfl W.heap.size 9 iI (.string ⟨#[]⟩) 1 16 Tryd.underlying25 hiI hzI0 hzI1 hzI2 rfl (by decide) _ _ _ rfl (HO8.out.alloc _) ⟨w8.heap.size, 0, none⟩ 1 1 [.string ⟨(Lib.itoa x).toArray⟩] rfl rfl (one_at w8 _ _) HON.out ?b3 ?b4 ?b5 ?_)
        case b3 => have := HLP.out; unfold maxLen; omega
        case b4 => have := HLP.out; omega
        case b5 => have := HX8.out.size; simp; omega
        intro v9 w9 hown hgrow _ _
        have HX9 : Hid (Below W.heap.size W w9) := Lib.hid ((HX8.out.alloc HX8.out.size _).grown hgrow (by have := HX8.out.size; simp; omega) fun k e => (HO8.out.lt k e).1)
        have HO9 : Hid (w9.ownsRow W.heap.size 9 1 v9 ((ps0 ++ [wDeps]) ++ (dp.take (j + 1)).map Lib.itoa).length (strV ((ps0 ++ [wDeps]) ++ (dp.take (j + 1)).map Lib.itoa))) := Lib.hid (by
          rw [← HSN.out, strV_snoc]; simpa using hown)
        obtain ⟨A9, c9, e9, -, -, -⟩ := owns_rd hown
        subst e9
        clear hown hgrow
        go_wp2_with fail
        go_roundw
        case rel => exact ⟨j + 1, by omega, by go_num, HO9, HX9⟩
        case measure => simp [intOf]; omega
      · obtain rfl : j = dp.length := by omega
        have lj : ¬ ((dp.length : Int) < (dp.length : Int)) := by omega
        rw [List.take_length] at HOJ ⊢
        generalize hq : (ps0 ++ [wDeps]) ++ dp.map Lib.itoa = ps1 at *
        have HQ1 : Hid (ps1 = ps0 ++ numsP wDeps dp) := Lib.hid (by rw [← hq, HDD.out]; simp)
        clear hq hlt hj
        have HNP2 : Hid (ps1.length ≤ 2000000000) := Lib.hid (by have h1 := HQ1.out; have h2 := congrArg List.length h1; have := numsP_len wDeps dp; have := HN.out; have := HNP1.out; have := HP0L.out; simp at h2; omega)
        have g5 := (HX.out.keep HXJ.out).cell 6
        simp only [List.getElem?_toArray, List.getElem?_cons_zero, List.getElem?_cons_succ] at g5
        by_cases hd : fr = []
        · have z0 : ¬ ((0 : Int) < (fr.length : Int)) := by rw [hd]; simp
          have z0n : ¬ (0 < fr.length) := by rw [hd]; simp
          have HQ2 : Hid (ps1 = ps1 ++ numsP wFrom fr) := Lib.hid (by rw [hd]; simp [numsP])
          clear hd
          have HE : Hid (ps1 = wEvent :: ar) := Lib.hid (by rw [HQ2.out, HQ1.out, HP0.out, HAR.out]; simp)
          have HT := Lib.hid (txts_row HOJ.out HE.out)
          have hln : ar.length + 1 = ps1.length := (by have h1 := congrArg List.length HE.out; simp only [List.length_cons] at h1; omega)
          have HB := Lib.hid (HB1.out.trans (HXJ.out.mono (by have := HXB.out; omega)))
          have HCL := Lib.hid (HLI.out Aj1 cj1 _ HB.out HT.out)
          rw [hln] at HCL
          clear HOJ HIT HFI hln
          go_wp2_with fail
          refine HCL.out.mono ?_
          rintro e w9 ⟨rfl, h8, h9⟩
          go_wp2_with fail
          go_end0
          exact ⟨rfl, h8, h9⟩
        · have z0 : (0 : Int) < (fr.length : Int) := by have := List.length_pos_iff.2 hd; omega
          have z0n : 0 < fr.length := List.length_pos_iff.2 hd
          have HDD : Hid (numsP wFrom fr = wFrom :: fr.map Lib.itoa) := Lib.hid (by unfold numsP; rw [if_neg hd])
          have HON := Lib.hid (one_str wFrom)
          clear hd
          go_wp2_with (at_builtin; refine wpList_append_own_at _ rfl _ _ 25 rfl W.heap.size 9 iI (.string ⟨#[]⟩) 1 16 Tryd.underlying25 hiI hzI0 hzI1 hzI2 rfl (by decide) _ _ _ rfl (HOJ.out.alloc _) ⟨wr.heap.size, 0, none⟩ 1 1 [.string ⟨(wFrom).toArray⟩] rfl rfl (one_at wr _ _) HON.out ?a3 ?a4 ?a5 ?_)
          case a3 => have := HNP2.out; unfold maxLen; omega
          case a4 => have := HNP2.out; omega
          case a5 => have := HXJ.out.size; simp; omega
          intro v72 w72 hown hgrow _ _
          have HX72 : Hid (Below W.heap.size W w72) := Lib.hid ((HXJ.out.alloc HXJ.out.size _).grown hgrow (by have := HXJ.out.size; simp; omega) fun k e => (HOJ.out.lt k e).1)
          have HO72 : Hid (w72.ownsRow W.heap.size 9 1 v72 ((ps1 ++ [wFrom]) ++ (fr.take 0).map Lib.itoa).length (strV ((ps1 ++ [wFrom]) ++ (fr.take 0).map Lib.itoa))) := Lib.hid (by
            rw [show (ps1 ++ [wFrom]) ++ (fr.take 0).map Lib.itoa = ps1 ++ [wFrom] by simp, strV_snoc]; simpa using hown)
          obtain ⟨A72, c72, e72, -, -, -⟩ := owns_rd hown
          subst e72
          have g7 := (HX.out.keep HX72.out).cell 6
          simp only [List.getElem?_toArray, List.getElem?_cons_zero, List.getElem?_cons_succ] at g7
          have HO7 : Hid (w72.ownsRow W.heap.size 9 1 (.slice A72 (ps1.length + 1) c72) ((ps1 ++ [wFrom]) ++ (fr.take 0).map Lib.itoa).length (strV ((ps1 ++ [wFrom]) ++ (fr.take 0).map Lib.itoa))) := HO72
          clear hown hgrow g5 HO72
          go_wp2_with fail
          go_loopw [5, 66] (fun pv iv wr => ∃ j : Nat, j ≤ fr.length ∧ iv = .int .i64 (j : Int) ∧ Hid (wr.ownsRow W.heap.size 9 1 pv ((ps1 ++ [wFrom]) ++ (fr.take j).map Lib.itoa).length (strV ((ps1 ++ [wFrom]) ++ (fr.take j).map Lib.itoa))) ∧ Hid (Below W.heap.size W wr)) (fun _ iv _ => fr.length - (intOf iv).toNat)
          case atStart => exact ⟨0, by omega, rfl, HO7, HX72⟩
          case round =>
            clear HO7 HX72 g7
            obtain ⟨j, hj, rfl, HOJ, HXJ⟩ := hrel
            obtain ⟨Aj2, cj2, ej2, -, -, -⟩ := owns_rd HOJ.out
            subst ej2
            by_cases hlt : j < fr.length
            · obtain ⟨x, hx⟩ : ∃ x, fr[j]? = some x := ⟨_, List.getElem?_eq_getElem hlt⟩
              obtain ⟨Ai, ci, ei, -, -, hix, hri⟩ := HI2.out.keep HXJ.out
              injection ei with ei1 _ ei3
              subst ei1 ei3
              obtain ⟨b1, o1, rfl, hb1, hc1⟩ := hri.int hx
              have HIX : Hid (I64 x) := Lib.hid (hix x (List.mem_of_getElem? hx))
              have HSN := Lib.hid (map_take_snoc hx (ps1 ++ [wFrom]))
              have HON := Lib.hid (one_str (Lib.itoa x))
              have HLP : Hid (((ps1 ++ [wFrom]) ++ (fr.take j).map Lib.itoa).length ≤ 5000000000) := Lib.hid (by have := HNP2.out; have := HN.out; simp; omega)
              have lj : (j : Int) < (fr.length : Int) := by omega
              have lm : (j : Int) < 4000000000 := by have := HN.out; omega
              clear hx hix hri hb1
              generalize (ps1 ++ [wFrom]) ++ (fr.take j).map Lib.itoa = pj at *
              go_wp2_with fail
              refine (HIT.out x HIX.out _ HXJ.out).mono ?_
              rintro e w8 ⟨rfl, hx8⟩
              have HX8 := Lib.hid (HXJ.out.trans (hx8.mono HXJ.out.size))
              have HO8 := Lib.hid (owns_keep HOJ.out hx8)
              clear hx8 hc1
              go_wp2_with (at_builtin; refine wpList_append_own_at _ rfl _ _ 25 rfl W.heap.size 9 iI (.string ⟨#[]⟩) 1 16 Tryd.underlying25 hiI hzI0 hzI1 hzI2 rfl (by decide) _ _ _ rfl (HO8.out.alloc _) ⟨w8.heap.size, 0, none⟩ 1 1 [.string ⟨(Lib.itoa x).toArray⟩] rfl rfl (one_at w8 _ _) HON.out ?b3 ?b4 ?b5 ?_)
              case b3 => have := HLP.out; unfold maxLen; omega
              case b4 => have := HLP.out; omega
              case b5 => have := HX8.out.size; simp; omega
              intro v9 w9 hown hgrow _ _
              have HX9 : Hid (Below W.heap.size W w9) := Lib.hid ((HX8.out.alloc HX8.out.size _).grown hgrow (by have := HX8.out.size; simp; omega) fun k e => (HO8.out.lt k e).1)
              have HO9 : Hid (w9.ownsRow W.heap.size 9 1 v9 ((ps1 ++ [wFrom]) ++ (fr.take (j + 1)).map Lib.itoa).length (strV ((ps1 ++ [wFrom]) ++ (fr.take (j + 1)).map Lib.itoa))) := Lib.hid (by
                rw [← HSN.out, strV_snoc]; simpa using hown)
              obtain ⟨A9, c9, e9, -, -, -⟩ := owns_rd hown
              subst e9
              clear hown hgrow
              go_wp2_with fail
              go_roundw
              case rel => exact ⟨j + 1, by omega, by go_num, HO9, HX9⟩
              case measure => simp [intOf]; omega
            · obtain rfl : j = fr.length := by omega
              have lj : ¬ ((fr.length : Int) < (fr.length : Int)) := by omega
              rw [List.take_length] at HOJ ⊢
              generalize hq : (ps1 ++ [wFrom]) ++ fr.map Lib.itoa = ps2 at *
              have HQ2 : Hid (ps2 = ps1 ++ numsP wFrom fr) := Lib.hid (by rw [← hq, HDD.out]; simp)
              clear hq hlt hj
              have HE : Hid (ps2 = wEvent :: ar) := Lib.hid (by rw [HQ2.out, HQ1.out, HP0.out, HAR.out]; simp)
              have HT := Lib.hid (txts_row HOJ.out HE.out)
              have hln : ar.length + 1 = ps2.length := (by have h1 := congrArg List.length HE.out; simp only [List.length_cons] at h1; omega)
              have HB := Lib.hid (HB1.out.trans (HXJ.out.mono (by have := HXB.out; omega)))
              have HCL := Lib.hid (HLI.out Aj2 cj2 _ HB.out HT.out)
              rw [hln] at HCL
              clear HOJ HIT HFI hln
              go_wp2_with fail
              refine HCL.out.mono ?_
              rintro e w9 ⟨rfl, h8, h9⟩
              go_wp2_with fail
              go_end0
              exact ⟨rfl, h8, h9⟩
end Go.Proofs.YtmnjmegejaejlaaDoor
