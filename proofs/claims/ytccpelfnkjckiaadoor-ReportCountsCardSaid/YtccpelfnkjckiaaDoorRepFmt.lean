/-
  WALK: report.Format. The text of reports.
-/
import Derived.Test.YtccpelfnkjckiaaDoorRepText
import Derived.Test.YtccpelfnkjckiaaDoorFormat
import Derived.Deep.RegionHeld3
namespace Go.Proofs.YtccpelfnkjckiaaDoor
open Go.RowKit

/-- The words for the kinds of goals. -/
def kindWords : List (List UInt8) := [[103, 111, 97, 108], [114, 97, 99, 101], [100, 101, 97, 100, 108, 111, 99, 107], [108, 111, 115, 116], [97, 116, 111, 109, 105, 99]]
def kindWord (k : Int) : List UInt8 := if k = 1 then [114, 97, 99, 101] else if k = 2 then [100, 101, 97, 100, 108, 111, 99, 107] else if k = 3 then [108, 111, 115, 116] else if k = 4 then [97, 116, 111, 109, 105, 99] else [103, 111, 97, 108]
theorem kindWord_len (k : Int) : (kindWord k).length ≤ 8 := by
  unfold kindWord
  by_cases h1 : k = 1
  · simp [h1]
  · by_cases h2 : k = 2
    · simp [h2]
    · by_cases h3 : k = 3
      · simp [h3]
      · by_cases h4 : k = 4
        · simp [h4]
        · simp [h1, h2, h3, h4]
theorem kindWord_in {t : Nat} (h0 : 0 < t) (h5 : t < 5) : kindWords[t]? = some (kindWord (t : Int)) := by
  match t, h0, h5 with
  | 1, _, _ => rfl
  | 2, _, _ => rfl
  | 3, _, _ => rfl
  | 4, _, _ => rfl
theorem kindWord_out {k : Int} (h : ¬ (0 < k ∧ k < 5)) : kindWord k = [103, 111, 97, 108] := by
  unfold kindWord
  rw [if_neg (by omega), if_neg (by omega), if_neg (by omega), if_neg (by omega)]
/-- The package's words lie where the initialiser lays them. -/
def WordsAt (w : World) : Prop := 0 < w.heap.size ∧ ∀ k s, kindWords[k]? = some s → w.cell? ⟨0, k, none⟩ = some (.string ⟨s.toArray⟩)
theorem WordsAt.keep {B : Nat} {w w' : World} (h : WordsAt w) (hb : Below B w w') (hB : 0 < B) : WordsAt w' :=
  ⟨Nat.lt_of_lt_of_le h.1 hb.size, fun k s hk => (hb.cell (p := ⟨0, k, none⟩) hB).trans (h.2 k s hk)⟩

/-- The text of the sites of a report, each behind a blank. -/
def sitesText (thr : List (List UInt8)) (sts : List Diff) (l : List Int) : List UInt8 := l.flatMap fun i => 32 :: siteText thr sts i
def headOf (r : Rep) : List UInt8 := kindWord r.kind ++ [32] ++ Lib.itoa r.score ++ [32] ++ Lib.itoa r.count
def repLine (thr : List (List UInt8)) (sts : List Diff) (r : Rep) : List UInt8 := headOf r ++ sitesText thr sts r.sites ++ [10]
def repsText (thr : List (List UInt8)) (sts : List Diff) (rs : List Rep) : List UInt8 := rs.flatMap (repLine thr sts)
/-- How many lines and sites. -/
def repsSize (rs : List Rep) : Nat := (rs.map fun r => r.sites.length + 1).sum
theorem siteText_len (thr : List (List UInt8)) (sts : List Diff) (i : Int) (ht : ∀ s ∈ thr, s.length ≤ 1048576) (hs : ∀ d ∈ sts, d.ok) : (siteText thr sts i).length ≤ 1048600 := by
  unfold siteText
  split
  · simp
  · split
    · simp
    · rename_i d hd
      split
      · simp
      · split
        · simp
        · rename_i s hs2
          have h1 := ht s (List.mem_of_getElem? hs2)
          have h2 := itoa_len d.c (hs d (List.mem_of_getElem? hd)).2.2
          simp; omega
theorem sitesText_len (thr : List (List UInt8)) (sts : List Diff) (l : List Int) (ht : ∀ s ∈ thr, s.length ≤ 1048576) (hs : ∀ d ∈ sts, d.ok) : (sitesText thr sts l).length ≤ 1048601 * l.length := by
  induction l with
  | nil => simp [sitesText]
  | cons i r ih =>
    have h1 := siteText_len thr sts i ht hs
    simp only [sitesText, List.flatMap_cons, List.length_append, List.length_cons] at ih ⊢
    omega
theorem headOf_len (r : Rep) (h : r.ok) : (headOf r).length ≤ 52 := by
  have h1 := itoa_len r.score h.2.2.2
  have h2 := itoa_len r.count h.2.1
  have h3 := kindWord_len r.kind
  simp only [headOf, List.length_append, List.length_singleton]; omega
theorem repLine_len (thr : List (List UInt8)) (sts : List Diff) (r : Rep) (hr : r.ok) (ht : ∀ s ∈ thr, s.length ≤ 1048576) (hs : ∀ d ∈ sts, d.ok) : (repLine thr sts r).length ≤ 1048601 * (r.sites.length + 1) := by
  have h1 := headOf_len r hr
  have h2 := sitesText_len thr sts r.sites ht hs
  simp only [repLine, List.length_append, List.length_singleton]; omega
theorem repsText_len (thr : List (List UInt8)) (sts : List Diff) (rs : List Rep) (hr : ∀ r ∈ rs, r.ok) (ht : ∀ s ∈ thr, s.length ≤ 1048576) (hs : ∀ d ∈ sts, d.ok) : (repsText thr sts rs).length ≤ 1048601 * repsSize rs := by
  induction rs with
  | nil => simp [repsText, repsSize]
  | cons r l ih =>
    have h1 := repLine_len thr sts r (hr r (by simp)) ht hs
    have h2 := ih fun q hq => hr q (by simp [hq])
    simp only [repsText, repsSize, List.flatMap_cons, List.length_append, List.map_cons, List.sum_cons] at h2 ⊢
    omega
theorem repsSize_take (rs : List Rep) (k : Nat) : repsSize (rs.take k) ≤ repsSize rs := by
  unfold repsSize; rw [List.map_take]; exact sum_take_le _ _
theorem repsSize_mem {rs : List Rep} {k : Nat} {r : Rep} (h : rs[k]? = some r) : repsSize (rs.take k) + (r.sites.length + 1) ≤ repsSize rs := by
  have h1 := repsSize_take rs (k + 1)
  rw [take_succ_of h] at h1
  simp only [repsSize, List.map_append, List.sum_append, List.map_cons, List.map_nil, List.sum_cons, List.sum_nil] at h1 ⊢
  omega
theorem repsText_succ {thr : List (List UInt8)} {sts : List Diff} {rs : List Rep} {k : Nat} {r : Rep} (h : rs[k]? = some r) : repsText thr sts (rs.take (k + 1)) = repsText thr sts (rs.take k) ++ headOf r ++ sitesText thr sts r.sites ++ [10] := by
  unfold repsText
  rw [flatMap_take_succ h]
  simp [repLine]
theorem sitesText_succ {thr : List (List UInt8)} {sts : List Diff} {l : List Int} {k : Nat} {x : Int} (h : l[k]? = some x) : sitesText thr sts (l.take (k + 1)) = sitesText thr sts (l.take k) ++ (32 :: siteText thr sts x) := by
  unfold sitesText
  rw [flatMap_take_succ h]

theorem flat_getS {α β : Type} {xs : List α} {g : α → List β} {m : Nat} (hg : ∀ a, (g a).length = m) {k r : Nat} {a : α} (h : xs[k]? = some a) (hr : r < m) : (xs.flatMap g)[k * m + r]? = (g a)[r]? := by
  induction xs generalizing k with
  | nil => simp at h
  | cons x t ih =>
    cases k with
    | zero => simp at h; subst h; rw [List.flatMap_cons, Nat.zero_mul, Nat.zero_add, List.getElem?_append_left (by rw [hg]; exact hr)]
    | succ k =>
      rw [List.flatMap_cons, List.getElem?_append_right (by rw [hg, Nat.succ_mul]; omega), hg, show (k + 1) * m + r - m = k * m + r by rw [Nat.succ_mul]; omega]
      exact ih (by simpa using h)

/-- The six cells of a report. -/
def RCells (w : World) (b o : Nat) (r : Rep) (sv tv : Value) : Prop :=
  w.cell? ⟨b, o, none⟩ = some (.int .i64 r.kind) ∧ w.cell? ⟨b, o + 1, none⟩ = some sv ∧ w.cell? ⟨b, o + 2, none⟩ = some tv ∧ w.cell? ⟨b, o + 3, none⟩ = some (.int .i64 r.count) ∧ w.cell? ⟨b, o + 4, none⟩ = some (.int .i64 r.best) ∧ w.cell? ⟨b, o + 5, none⟩ = some (.int .i64 r.score)
theorem RCells.keep {w w' : World} {b o : Nat} {r : Rep} {sv tv : Value} (h : RCells w b o r sv tv) (hb : Below w.heap.size w w') (hlt : b < w.heap.size) : RCells w' b o r sv tv := by
  obtain ⟨h0, h1, h2, h3, h4, h5⟩ := h
  have k : ∀ j, w'.cell? ⟨b, j, none⟩ = w.cell? ⟨b, j, none⟩ := fun j => hb.cell (p := ⟨b, j, none⟩) hlt
  exact ⟨(k _).trans h0, (k _).trans h1, (k _).trans h2, (k _).trans h3, (k _).trans h4, (k _).trans h5⟩
theorem Reps.at_ {w : World} {A : Option Addr} {ps : List (Rep × Value × Value)} (h : Rd w A (ps.flatMap Rep.cells)) {k : Nat} {p : Rep × Value × Value} (hk : ps[k]? = some p) :
    ∃ b off, A = some ⟨b, off, none⟩ ∧ b < w.heap.size ∧ RCells w b (off + k * 6) p.1 p.2.1 p.2.2 := by
  have hg : ∀ r, r < 6 → (ps.flatMap Rep.cells)[k * 6 + r]? = (Rep.cells p)[r]? := fun r hr => flat_getS (g := Rep.cells) (m := 6) (fun _ => rfl) hk hr
  obtain ⟨b, off, hA, hlt, hc⟩ := h (by have := (List.getElem?_eq_some_iff.1 ((hg 0 (by omega)).trans (show (Rep.cells p)[0]? = some _ from rfl))).1; omega)
  have hx : ∀ r u, r < 6 → (Rep.cells p)[r]? = some u → w.cell? ⟨b, off + k * 6 + r, none⟩ = some u := fun r u hr hu => by
    rw [Nat.add_assoc]; exact hc _ _ ((hg r hr).trans hu)
  exact ⟨b, off, hA, hlt, hx 0 _ (by omega) rfl, hx 1 _ (by omega) rfl, hx 2 _ (by omega) rfl, hx 3 _ (by omega) rfl, hx 4 _ (by omega) rfl, hx 5 _ (by omega) rfl⟩
theorem Kept.blk {w w' : World} {B b g : Nat} {t : TypeId} {cs : Array Value} (h : Kept B b w w') (hb : Blk w g t cs) (hg : g ≠ b) (ht : t ≠ 5) : Blk w' g t cs :=
  h.others g _ hb (fun e => hg (by injection e)) (fun c fz e => by injection e with _ e2; exact absurd e2 ht)
theorem str_blank (x : List UInt8) : ByteArray.mk #[32] ++ ByteArray.mk x.toArray = ByteArray.mk (32 :: x).toArray := str_append2 [32] x
theorem str_head (r : Rep) : ByteArray.mk (kindWord r.kind).toArray ++ ByteArray.mk #[32] ++ ByteArray.mk (Lib.itoa r.score).toArray ++ ByteArray.mk #[32] ++ ByteArray.mk (Lib.itoa r.count).toArray = ByteArray.mk (headOf r).toArray := by
  unfold headOf
  rw [show ByteArray.mk #[32] = ByteArray.mk [32].toArray from rfl, str_append2, str_append2, str_append2, str_append2]

set_option maxRecDepth 100000 in
set_option maxHeartbeats 4000000 in
theorem rpformat_any (wv rv : Value) (thr : List (List UInt8)) (sts : List Diff) (rs : List Rep) (w : World) (hw : IsWld w wv thr sts) (hr : Reps w rv rs) (hT : Tab w) (hW : WordsAt w) (ht : ∀ s ∈ thr, s.length ≤ 1048576) (hsz : repsSize rs ≤ 1000000) :
    Calls Tryd.prog 25 #[wv, rv] w fun e w' => e = .returned (.string ⟨(repsText thr sts rs).toArray⟩) ∧ Below w.heap.size w w' := by
  have HWL := Lib.hid hw
  obtain ⟨c0, c1, c2, c3, tv, sv, rfl, hts, hss⟩ := hw
  obtain ⟨At, ct, rfl, t1, t2, -, -⟩ := hts
  obtain ⟨As, cs, rfl, s1, s2, hsk, -⟩ := hss
  obtain ⟨A, c, ps, rfl, rfl, h3, h4, hrd, hps⟩ := hr
  unfold maxLen at t2 s2 h4
  have HT := Lib.hid hT
  have HW := Lib.hid hW
  have HRD := Lib.hid hrd
  have HPS := Lib.hid hps
  have HTH := Lib.hid ht
  have HSK := Lib.hid hsk
  have HSZ := Lib.hid hsz
  have htl := hT.lt
  have hwl := hW.1
  clear hT hW hrd hps ht hsk hsz
  have mixed : Tryd.prog.follows .mixedOrders = true := by kernel_rfl
  have HOKR : Hid (∀ r ∈ ps.map (·.1), r.ok) := Lib.hid fun r hr => by obtain ⟨q, hq, rfl⟩ := List.mem_map.1 hr; exact (HPS.out q hq).2.2
  go_enter Tryd.func25, Tryd.ntmps25
  go_wp2_with fail
  obtain ⟨w1, hw1⟩ : ∃ w1 : World, w1 = (w.alloc (.cells #[c0, c1, c2, c3, .slice At thr.length ct, .slice As sts.length cs] 70)).alloc (.cells #[.pointer none, .slice none 0 0] 104) := ⟨_, rfl⟩
  have HB1 : Hid (Below w.heap.size w w1) := by rw [hw1]; exact Lib.hid (by go_grown)
  have HBK : Hid (Blk w1 w.heap.size 70 #[c0, c1, c2, c3, .slice At thr.length ct, .slice As sts.length cs]) := by rw [hw1]; exact Lib.hid ((Blk.new w _ _).alloc _)
  have HBB : Hid (Lib.IsBuilder 104 5 (w.heap.size + 1) (w.heap.size + 1) (Lib.byteCells []) w1) := by
    have h := Lib.fresh_isBuilder 104 5 (w.alloc (.cells #[c0, c1, c2, c3, .slice At thr.length ct, .slice As sts.length cs] 70))
    simp only [World.size_alloc] at h
    rw [hw1]; exact Lib.hid h
  have hz1 : w.heap.size + 2 ≤ w1.heap.size := by rw [hw1]; simp
  rw [← hw1]
  clear hw1
  go_loopw [13] (fun i wr => ∃ k : Nat, k ≤ ps.length ∧ i = .int .i64 k ∧ Hid (Lib.IsBuilder 104 5 (w.heap.size + 1) (w.heap.size + 1) (Lib.byteCells (repsText thr sts ((ps.map (·.1)).take k))) wr) ∧ Hid (Kept (w.heap.size + 1) (w.heap.size + 1) w1 wr)) (fun i _ => ps.length - (intOf i).toNat)
  case atStart => exact ⟨0, by omega, rfl, HBB, Lib.hid (Kept.refl _ _ _)⟩
  case round =>
    obtain ⟨k, hk, rfl, HBk, HKk⟩ := hrel
    have hBr : w.heap.size + 2 ≤ wr.heap.size := Nat.le_trans hz1 HKk.out.below.size
    have HBR : Hid (Below w.heap.size w wr) := Lib.hid (HB1.out.trans (HKk.out.below.mono (by omega)))
    by_cases hlt : k < ps.length
    · obtain ⟨p, hp⟩ : ∃ q, ps[k]? = some q := ⟨_, List.getElem?_eq_getElem hlt⟩
      obtain ⟨b, off, rfl, hbl, hci⟩ := Reps.at_ (HRD.out.keep HBR.out) hp
      have HR : Hid ((ps.map (·.1))[k]? = some p.1) := Lib.hid (by rw [List.getElem?_map, hp]; rfl)
      obtain ⟨hi1, hi2, hrok⟩ := HPS.out p (List.mem_of_getElem? hp)
      have HI1 := Lib.hid hi1
      have HRO := Lib.hid hrok
      obtain ⟨r, sv, tv⟩ := p
      obtain ⟨k0, k1, k2, k3, k4, k5⟩ := hci
      simp only at k0 k1 k2 k3 k4 k5 HI1 HRO HR
      have hi1' := HI1.out
      obtain ⟨As1, cs1, hsv, q1, q2, -, -⟩ := hi1'
      subst hsv
      unfold maxLen at q2
      have hi2' := hi2
      obtain ⟨At1, ct1, htv, -, -, -, -⟩ := hi2'
      simp only at htv
      subst htv
      have HLT : Hid ((repsText thr sts ((ps.map (·.1)).take k)).length ≤ 1048601 * repsSize ((ps.map (·.1)).take k)) := Lib.hid (repsText_len thr sts _ (fun q hq => HOKR.out q (List.mem_of_mem_take hq)) HTH.out HSK.out)
      have HSM := Lib.hid (repsSize_mem HR.out)
      have HHL := Lib.hid (headOf_len r HRO.out)
      have li : (k : Int) < ps.length := by omega
      have hil1 := itoa_len r.score HRO.out.2.2.2
      have hil2 := itoa_len r.count HRO.out.2.1
      have hkl := kindWord_len r.kind
      clear hp hi1 hi2 hrok
      have g0 : wr.cell? ⟨0, 0, none⟩ = some (.string ⟨#[103, 111, 97, 108]⟩) := (HW.out.keep HBR.out hwl).2 0 [103, 111, 97, 108] rfl
      have gz : 0 < wr.heap.size := by omega
      have HKW := (HW.out.keep HBR.out hwl).2
      obtain ⟨W, hWW⟩ : ∃ W, W = kindWord r.kind := ⟨_, rfl⟩
      have HWW := Lib.hid hWW
      rw [← hWW] at hkl
      obtain ⟨kd, hkd⟩ : ∃ kd, kd = r.kind := ⟨_, rfl⟩
      rw [← hkd] at k0 hWW
      have HKD := Lib.hid hkd
      clear hkd
      by_cases hk5 : 0 < kd ∧ kd < 5
      · obtain ⟨t, rfl⟩ : ∃ t : Nat, kd = t := ⟨kd.toNat, by omega⟩
        have x1 : 0 < t := by omega
        have x2 : t < 5 := by omega
        have x3 : (0 : Int) < t := by omega
        have x4 : (t : Int) < 5 := by omega
        have gt := HKW t _ (kindWord_in x1 x2)
        rw [← hWW] at gt
        clear hk5 hWW HKW x1 x2
        have x1 : 0 < t := by omega
        have x2 : t < 5 := by omega
        go_wp2_with fail
        obtain ⟨w3, hw3⟩ : ∃ w3 : World, w3 = wr.alloc (.cells #[.int .i64 (t : Int), .slice As1 r.sites.length cs1, .slice At1 r.starts.length ct1, .int .i64 r.count, .int .i64 r.best, .int .i64 r.score] 61) := ⟨_, rfl⟩
        have HB3 : Hid (Below wr.heap.size wr w3) := by rw [hw3]; exact Lib.hid (by go_grown)
        have HK3 : Hid (Blk w3 wr.heap.size 61 #[.int .i64 (t : Int), .slice As1 r.sites.length cs1, .slice At1 r.starts.length ct1, .int .i64 r.count, .int .i64 r.best, .int .i64 r.score]) := by rw [hw3]; exact Lib.hid (Blk.new _ _ _)
        rw [← hw3]
        clear hw3
        have HACC : Hid (Lib.IsBuilder 104 5 (w.heap.size + 1) (w.heap.size + 1) (Lib.byteCells (repsText thr sts ((ps.map (·.1)).take k))) w3) := Lib.hid (isBuilder_keep HBk.out HB3.out)
        have HKA : Hid (Kept (w.heap.size + 1) (w.heap.size + 1) w1 w3) := Lib.hid (HKk.out.trans (Kept.of_below HB3.out (by omega)))
        have HLA : Hid ((repsText thr sts ((ps.map (·.1)).take k)).length + (headOf r).length + 1048601 * (r.sites.length + 1) ≤ 1048601 * 1000000 + 52) := Lib.hid (by have h1 := HLT.out; have h2 := HSM.out; have h3 := HHL.out; have h4 := HSZ.out; omega)
        have HACT : Hid (repsText thr sts ((ps.map (·.1)).take (k + 1)) = repsText thr sts ((ps.map (·.1)).take k) ++ headOf r ++ sitesText thr sts r.sites ++ [10]) := Lib.hid (repsText_succ HR.out)
        obtain ⟨acc, hacc⟩ : ∃ acc, acc = repsText thr sts ((ps.map (·.1)).take k) := ⟨_, rfl⟩
        rw [← hacc] at HACC HLA HACT
        clear hacc
        have HXE : Hid ((ByteArray.mk W.toArray ++ ByteArray.mk #[32] ++ ByteArray.mk (Lib.itoa r.score).toArray ++ ByteArray.mk #[32] ++ ByteArray.mk (Lib.itoa r.count).toArray) = ByteArray.mk (headOf r).toArray) := Lib.hid (by rw [HWW.out]; exact str_head r)
        have HIT : Hid (∀ n w', I64 n → Below w3.heap.size w3 w' → Calls Tryd.prog 48 #[.int .i64 n] w' fun e w'' => e = .returned (.string ⟨(Lib.itoa n).toArray⟩) ∧ Below w3.heap.size w3 w'') := Lib.hid (fun n w' hn hb => by
          refine (itoa_any n w' hn (HT.out.keep ((HBR.out.trans (HB3.out.mono HBR.out.size)).trans (hb.mono (Nat.le_trans HBR.out.size HB3.out.size))) htl)).mono ?_
          rintro e w'' ⟨rfl, h⟩
          exact ⟨rfl, hb.trans (h.mono hb.size)⟩)
        have HSOF : Hid (∀ w', Below w3.heap.size w3 w' → w'.cell? ⟨wr.heap.size, 1, none⟩ = some (.slice As1 r.sites.length cs1) ∧ w'.cell? ⟨wr.heap.size, 3, none⟩ = some (.int .i64 r.count) ∧ w'.cell? ⟨wr.heap.size, 5, none⟩ = some (.int .i64 r.score)) := Lib.hid (fun w' hb => by
          have h := HK3.out.keep hb
          have h1 := h.cell 1
          have h3 := h.cell 3
          have h5 := h.cell 5
          simp only [List.getElem?_toArray, List.getElem?_cons_zero, List.getElem?_cons_succ] at h1 h3 h5
          exact ⟨h1, h3, h5⟩)
        have HWS : Hid (∀ w', Below w3.heap.size w3 w' → Calls Tryd.prog 47 #[.pointer (some ⟨w.heap.size + 1, 0, none⟩), .string (ByteArray.mk W.toArray ++ ByteArray.mk #[32] ++ ByteArray.mk (Lib.itoa r.score).toArray ++ ByteArray.mk #[32] ++ ByteArray.mk (Lib.itoa r.count).toArray)] w' fun e w'' => ∃ n, e = .returned (.tuple #[.int .i64 n, .nilIface]) ∧ (w''.cell? ⟨wr.heap.size, 1, none⟩ = some (.slice As1 r.sites.length cs1) ∧ w''.cell? ⟨wr.heap.size, 3, none⟩ = some (.int .i64 r.count) ∧ w''.cell? ⟨wr.heap.size, 5, none⟩ = some (.int .i64 r.score)) ∧ Lib.IsBuilder 104 5 (w.heap.size + 1) (w.heap.size + 1) (Lib.byteCells (acc ++ headOf r)) w'' ∧ Kept (w.heap.size + 1) (w.heap.size + 1) w3 w'') := Lib.hid (fun w' hb => by
          have hB : w.heap.size + 1 ≤ w'.heap.size := by have h1 := hb.size; have h2 := HB3.out.size; omega
          have hk := Kept.of_below (b := w.heap.size + 1) hb (show w.heap.size + 1 ≤ w3.heap.size by have h2 := HB3.out.size; omega)
          refine (writeString_any (w.heap.size + 1) (w.heap.size + 1) _ _ w' (isBuilder_keep HACC.out hb) ?_ hB).mono ?_
          · rw [HXE.out, Lib.byteCells_length, bsize]; have := HLA.out; omega
          · rintro e w'' ⟨rfl, h1, h2⟩
            have h := h2.blk (HK3.out.keep hb) (by omega) (by decide)
            have q1 := h.cell 1
            have q3 := h.cell 3
            have q5 := h.cell 5
            simp only [List.getElem?_toArray, List.getElem?_cons_zero, List.getElem?_cons_succ] at q1 q3 q5
            refine ⟨_, rfl, ⟨q1, q3, q5⟩, .inr ?_, hk.trans h2⟩
            rw [HXE.out, strCells_of, ← byteCells_append] at h1
            exact h1)
        have hI1 := HRO.out.2.2.2
        have hI2 := HRO.out.2.1
        have hs3 := HSOF.out w3 (Below.refl _ _)
        have f1 : (9223372036854775807 < W.length + 1) = False := eq_false (by omega)
        have f2 : (9223372036854775807 < W.length + 1 + (Lib.itoa r.score).length) = False := eq_false (by omega)
        have f3 : (9223372036854775807 < W.length + 1 + (Lib.itoa r.score).length + 1) = False := eq_false (by omega)
        have f4 : (9223372036854775807 < W.length + 1 + (Lib.itoa r.score).length + 1 + (Lib.itoa r.count).length) = False := eq_false (by omega)
        have HQR : Hid (w3.heap.size ≥ w.heap.size + 2 ∧ wr.heap.size < w3.heap.size) := Lib.hid ⟨by have h2 := HB3.out.size; omega, HK3.out.lt⟩
        clear k0 k1 k2 k3 k4 k5 x1 x2 x3 x4 g0 gt
        go_region_held3 (fun w' => w'.cell? ⟨wr.heap.size, 1, none⟩ = some (.slice As1 r.sites.length cs1) ∧ w'.cell? ⟨wr.heap.size, 3, none⟩ = some (.int .i64 r.count) ∧ w'.cell? ⟨wr.heap.size, 5, none⟩ = some (.int .i64 r.score)) (first | with_reducible assumption | exact HSOF.out _ (Below.refl _ _).drew) (first
          | (go_at_call 48; (with_reducible refine (HIT.out _ _ (by with_reducible assumption) (by first | with_reducible assumption | exact (Below.refl _ _).drew)).mono ?_); rintro e w5 ⟨rfl, hb3⟩; have hs3 := HSOF.out w5 hb3)
          | (go_at_call 47; (with_reducible refine (HWS.out _ (by with_reducible assumption)).mono ?_); rintro e w6 ⟨n6, rfl, hs3, h6, k6⟩; have HB6 := Lib.hid h6; have HK6 := Lib.hid k6; clear h6 k6))
        clear f1 f2 f3 f4 hil1 hil2
        have hq1 := hs3.1
        clear hs3
        go_wp2_with fail
        clear hq1
        go_loopw [46] (fun i wr' => ∃ j : Nat, j ≤ r.sites.length ∧ i = .int .i64 j ∧ Hid (Lib.IsBuilder 104 5 (w.heap.size + 1) (w.heap.size + 1) (Lib.byteCells (acc ++ headOf r ++ sitesText thr sts (r.sites.take j))) wr') ∧ Hid (Kept (w.heap.size + 1) (w.heap.size + 1) w6 wr')) (fun i _ => r.sites.length - (intOf i).toNat)
        case atStart => exact ⟨0, by omega, rfl, Lib.hid (by simpa [sitesText] using HB6.out), Lib.hid (Kept.refl _ _ _)⟩
        case round =>
          obtain ⟨j, hj, rfl, HBJ, HKJ⟩ := hrel
          have HKW : Hid (Kept (w.heap.size + 1) (w.heap.size + 1) w1 wr) := Lib.hid (HKA.out.trans (HK6.out.trans HKJ.out))
          have HBW : Hid (Below w.heap.size w wr) := Lib.hid (HB1.out.trans (HKW.out.below.mono (by omega)))
          have hBq : w.heap.size + 2 ≤ wr.heap.size := Nat.le_trans hz1 HKW.out.below.size
          have HLJ : Hid ((sitesText thr sts (r.sites.take j)).length ≤ 1048601 * j) := Lib.hid (by
            have h1 := sitesText_len thr sts (r.sites.take j) HTH.out HSK.out
            have h2 := List.length_take_le j r.sites
            exact Nat.le_trans h1 (by omega))
          by_cases hjt : j < r.sites.length
          · obtain ⟨x, hx⟩ : ∃ x, r.sites[j]? = some x := ⟨_, List.getElem?_eq_getElem hjt⟩
            obtain ⟨A9, c9, hv9, -, -, hI9, hr9⟩ := HI1.out.keep HBW.out
            injection hv9 with e1 _ e2
            subst e1 e2
            obtain ⟨b9, o9, rfl, hb9, hc9⟩ := hr9.int hx
            have HXX := Lib.hid hx
            have HXI := Lib.hid (hI9 x (List.mem_of_getElem? hx))
            have HBX : Hid (Blk wr w.heap.size 70 #[c0, c1, c2, c3, .slice At thr.length ct, .slice As sts.length cs]) := Lib.hid (HBK.out.below HKW.out.below (by omega))
            have hsl := siteText_len thr sts x HTH.out HSK.out
            have q0 := HBX.out.cell 0
            have q1' := HBX.out.cell 1
            have q2' := HBX.out.cell 2
            have q3' := HBX.out.cell 3
            have q4' := HBX.out.cell 4
            have q5' := HBX.out.cell 5
            simp only [List.getElem?_toArray, List.getElem?_cons_zero, List.getElem?_cons_succ] at q0 q1' q2' q3' q4' q5'
            have ljt : (j : Int) < r.sites.length := by omega
            clear hx hI9 hr9
            go_wp2_with fail
            refine (place_any _ thr sts x _ (HWL.out.keep HBW.out) (HT.out.keep HBW.out htl) HXI.out).mono ?_
            rintro e w7 ⟨rfl, hb7⟩
            have HB7 := Lib.hid hb7
            have hb7s := hb7.size
            clear hb7 q0 q1' q2' q3' q4' q5' hc9
            go_wp2_with fail
            refine (writeString_any (w.heap.size + 1) (w.heap.size + 1) _ _ _ (isBuilder_keep HBJ.out HB7.out) ?hlen (by omega)).mono ?_
            case hlen =>
              rw [str_blank, Lib.byteCells_length, bsize]
              have h1 := HLA.out
              have h2 := HLJ.out
              simp only [List.length_append, List.length_cons]
              omega
            rintro e w8 ⟨rfl, h8, k8⟩
            rw [str_blank, strCells_of, ← byteCells_append] at h8
            have HB8 : Hid (Lib.IsBuilder 104 5 (w.heap.size + 1) (w.heap.size + 1) (Lib.byteCells (acc ++ headOf r ++ sitesText thr sts (r.sites.take j) ++ (32 :: siteText thr sts x))) w8) := Lib.hid (.inr h8)
            have HK8 : Hid (Kept (w.heap.size + 1) (w.heap.size + 1) w6 w8) := Lib.hid (HKJ.out.trans ((Kept.of_below HB7.out (by omega)).trans k8))
            clear h8 k8
            go_wp2_with fail
            go_roundw
            case rel => exact ⟨j + 1, by omega, by go_num, by rw [sitesText_succ HXX.out, ← List.append_assoc]; exact HB8, HK8⟩
            case measure => simp [intOf]; omega
          · have HBA : Hid (Lib.IsBuilder 104 5 (w.heap.size + 1) (w.heap.size + 1) (Lib.byteCells (acc ++ headOf r ++ sitesText thr sts r.sites)) wr) := Lib.hid (by
              have h := HBJ.out
              rwa [List.take_of_length_le (by omega)] at h)
            have HLX : Hid ((sitesText thr sts r.sites).length ≤ 1048601 * r.sites.length) := Lib.hid (sitesText_len thr sts r.sites HTH.out HSK.out)
            go_wp2_with fail
            refine (writeByte_any (w.heap.size + 1) (w.heap.size + 1) _ _ _ HBA.out ?hlen (by omega)).mono ?_
            case hlen =>
              rw [Lib.byteCells_length]
              have h1 := HLA.out
              have h2 := HLX.out
              simp only [List.length_append]
              omega
            rintro e w8 ⟨rfl, h8, k8⟩
            have HB8 : Hid (Lib.IsBuilder 104 5 (w.heap.size + 1) (w.heap.size + 1) (Lib.byteCells (repsText thr sts ((ps.map (·.1)).take (k + 1)))) w8) := Lib.hid (.inr (by
              rw [HACT.out, byteCells_append _ [10]]
              exact h8))
            have HK8 : Hid (Kept (w.heap.size + 1) (w.heap.size + 1) w1 w8) := Lib.hid (HKW.out.trans k8)
            clear h8 k8
            go_wp2_with fail
            go_roundw
            case rel => exact ⟨k + 1, by omega, by go_num, HB8, HK8⟩
            case measure => simp [intOf]; omega
      · have g0' : wr.cell? ⟨0, 0, none⟩ = some (.string ⟨W.toArray⟩) := by rw [hWW, kindWord_out hk5]; exact g0
        clear g0 hWW HKW
        by_cases h0 : 0 < kd
        · have h5 : ¬ kd < 5 := by omega
          have d5 : decide (kd < 5) = false := by simpa using h5
          clear hk5
          go_wp2_with fail
          obtain ⟨w3, hw3⟩ : ∃ w3 : World, w3 = wr.alloc (.cells #[.int .i64 kd, .slice As1 r.sites.length cs1, .slice At1 r.starts.length ct1, .int .i64 r.count, .int .i64 r.best, .int .i64 r.score] 61) := ⟨_, rfl⟩
          have HB3 : Hid (Below wr.heap.size wr w3) := by rw [hw3]; exact Lib.hid (by go_grown)
          have HK3 : Hid (Blk w3 wr.heap.size 61 #[.int .i64 kd, .slice As1 r.sites.length cs1, .slice At1 r.starts.length ct1, .int .i64 r.count, .int .i64 r.best, .int .i64 r.score]) := by rw [hw3]; exact Lib.hid (Blk.new _ _ _)
          rw [← hw3]
          clear hw3
          have HACC : Hid (Lib.IsBuilder 104 5 (w.heap.size + 1) (w.heap.size + 1) (Lib.byteCells (repsText thr sts ((ps.map (·.1)).take k))) w3) := Lib.hid (isBuilder_keep HBk.out HB3.out)
          have HKA : Hid (Kept (w.heap.size + 1) (w.heap.size + 1) w1 w3) := Lib.hid (HKk.out.trans (Kept.of_below HB3.out (by omega)))
          have HLA : Hid ((repsText thr sts ((ps.map (·.1)).take k)).length + (headOf r).length + 1048601 * (r.sites.length + 1) ≤ 1048601 * 1000000 + 52) := Lib.hid (by have h1 := HLT.out; have h2 := HSM.out; have h3 := HHL.out; have h4 := HSZ.out; omega)
          have HACT : Hid (repsText thr sts ((ps.map (·.1)).take (k + 1)) = repsText thr sts ((ps.map (·.1)).take k) ++ headOf r ++ sitesText thr sts r.sites ++ [10]) := Lib.hid (repsText_succ HR.out)
          obtain ⟨acc, hacc⟩ : ∃ acc, acc = repsText thr sts ((ps.map (·.1)).take k) := ⟨_, rfl⟩
          rw [← hacc] at HACC HLA HACT
          clear hacc
          have HXE : Hid ((ByteArray.mk W.toArray ++ ByteArray.mk #[32] ++ ByteArray.mk (Lib.itoa r.score).toArray ++ ByteArray.mk #[32] ++ ByteArray.mk (Lib.itoa r.count).toArray) = ByteArray.mk (headOf r).toArray) := Lib.hid (by rw [HWW.out]; exact str_head r)
          have HIT : Hid (∀ n w', I64 n → Below w3.heap.size w3 w' → Calls Tryd.prog 48 #[.int .i64 n] w' fun e w'' => e = .returned (.string ⟨(Lib.itoa n).toArray⟩) ∧ Below w3.heap.size w3 w'') := Lib.hid (fun n w' hn hb => by
            refine (itoa_any n w' hn (HT.out.keep ((HBR.out.trans (HB3.out.mono HBR.out.size)).trans (hb.mono (Nat.le_trans HBR.out.size HB3.out.size))) htl)).mono ?_
            rintro e w'' ⟨rfl, h⟩
            exact ⟨rfl, hb.trans (h.mono hb.size)⟩)
          have HSOF : Hid (∀ w', Below w3.heap.size w3 w' → w'.cell? ⟨wr.heap.size, 1, none⟩ = some (.slice As1 r.sites.length cs1) ∧ w'.cell? ⟨wr.heap.size, 3, none⟩ = some (.int .i64 r.count) ∧ w'.cell? ⟨wr.heap.size, 5, none⟩ = some (.int .i64 r.score)) := Lib.hid (fun w' hb => by
            have h := HK3.out.keep hb
            have h1 := h.cell 1
            have h3 := h.cell 3
            have h5 := h.cell 5
            simp only [List.getElem?_toArray, List.getElem?_cons_zero, List.getElem?_cons_succ] at h1 h3 h5
            exact ⟨h1, h3, h5⟩)
          have HWS : Hid (∀ w', Below w3.heap.size w3 w' → Calls Tryd.prog 47 #[.pointer (some ⟨w.heap.size + 1, 0, none⟩), .string (ByteArray.mk W.toArray ++ ByteArray.mk #[32] ++ ByteArray.mk (Lib.itoa r.score).toArray ++ ByteArray.mk #[32] ++ ByteArray.mk (Lib.itoa r.count).toArray)] w' fun e w'' => ∃ n, e = .returned (.tuple #[.int .i64 n, .nilIface]) ∧ (w''.cell? ⟨wr.heap.size, 1, none⟩ = some (.slice As1 r.sites.length cs1) ∧ w''.cell? ⟨wr.heap.size, 3, none⟩ = some (.int .i64 r.count) ∧ w''.cell? ⟨wr.heap.size, 5, none⟩ = some (.int .i64 r.score)) ∧ Lib.IsBuilder 104 5 (w.heap.size + 1) (w.heap.size + 1) (Lib.byteCells (acc ++ headOf r)) w'' ∧ Kept (w.heap.size + 1) (w.heap.size + 1) w3 w'') := Lib.hid (fun w' hb => by
            have hB : w.heap.size + 1 ≤ w'.heap.size := by have h1 := hb.size; have h2 := HB3.out.size; omega
            have hk := Kept.of_below (b := w.heap.size + 1) hb (show w.heap.size + 1 ≤ w3.heap.size by have h2 := HB3.out.size; omega)
            refine (writeString_any (w.heap.size + 1) (w.heap.size + 1) _ _ w' (isBuilder_keep HACC.out hb) ?_ hB).mono ?_
            · rw [HXE.out, Lib.byteCells_length, bsize]; have := HLA.out; omega
            · rintro e w'' ⟨rfl, h1, h2⟩
              have h := h2.blk (HK3.out.keep hb) (by omega) (by decide)
              have q1 := h.cell 1
              have q3 := h.cell 3
              have q5 := h.cell 5
              simp only [List.getElem?_toArray, List.getElem?_cons_zero, List.getElem?_cons_succ] at q1 q3 q5
              refine ⟨_, rfl, ⟨q1, q3, q5⟩, .inr ?_, hk.trans h2⟩
              rw [HXE.out, strCells_of, ← byteCells_append] at h1
              exact h1)
          have hI1 := HRO.out.2.2.2
          have hI2 := HRO.out.2.1
          have hs3 := HSOF.out w3 (Below.refl _ _)
          have f1 : (9223372036854775807 < W.length + 1) = False := eq_false (by omega)
          have f2 : (9223372036854775807 < W.length + 1 + (Lib.itoa r.score).length) = False := eq_false (by omega)
          have f3 : (9223372036854775807 < W.length + 1 + (Lib.itoa r.score).length + 1) = False := eq_false (by omega)
          have f4 : (9223372036854775807 < W.length + 1 + (Lib.itoa r.score).length + 1 + (Lib.itoa r.count).length) = False := eq_false (by omega)
          have HQR : Hid (w3.heap.size ≥ w.heap.size + 2 ∧ wr.heap.size < w3.heap.size) := Lib.hid ⟨by have h2 := HB3.out.size; omega, HK3.out.lt⟩
          clear k0 k1 k2 k3 k4 k5 g0' h0 h5 d5
          go_region_held3 (fun w' => w'.cell? ⟨wr.heap.size, 1, none⟩ = some (.slice As1 r.sites.length cs1) ∧ w'.cell? ⟨wr.heap.size, 3, none⟩ = some (.int .i64 r.count) ∧ w'.cell? ⟨wr.heap.size, 5, none⟩ = some (.int .i64 r.score)) (first | with_reducible assumption | exact HSOF.out _ (Below.refl _ _).drew) (first
            | (go_at_call 48; (with_reducible refine (HIT.out _ _ (by with_reducible assumption) (by first | with_reducible assumption | exact (Below.refl _ _).drew)).mono ?_); rintro e w5 ⟨rfl, hb3⟩; have hs3 := HSOF.out w5 hb3)
            | (go_at_call 47; (with_reducible refine (HWS.out _ (by with_reducible assumption)).mono ?_); rintro e w6 ⟨n6, rfl, hs3, h6, k6⟩; have HB6 := Lib.hid h6; have HK6 := Lib.hid k6; clear h6 k6))
          clear f1 f2 f3 f4 hil1 hil2
          have hq1 := hs3.1
          clear hs3
          go_wp2_with fail
          clear hq1
          go_loopw [46] (fun i wr' => ∃ j : Nat, j ≤ r.sites.length ∧ i = .int .i64 j ∧ Hid (Lib.IsBuilder 104 5 (w.heap.size + 1) (w.heap.size + 1) (Lib.byteCells (acc ++ headOf r ++ sitesText thr sts (r.sites.take j))) wr') ∧ Hid (Kept (w.heap.size + 1) (w.heap.size + 1) w6 wr')) (fun i _ => r.sites.length - (intOf i).toNat)
          case atStart => exact ⟨0, by omega, rfl, Lib.hid (by simpa [sitesText] using HB6.out), Lib.hid (Kept.refl _ _ _)⟩
          case round =>
            obtain ⟨j, hj, rfl, HBJ, HKJ⟩ := hrel
            have HKW : Hid (Kept (w.heap.size + 1) (w.heap.size + 1) w1 wr) := Lib.hid (HKA.out.trans (HK6.out.trans HKJ.out))
            have HBW : Hid (Below w.heap.size w wr) := Lib.hid (HB1.out.trans (HKW.out.below.mono (by omega)))
            have hBq : w.heap.size + 2 ≤ wr.heap.size := Nat.le_trans hz1 HKW.out.below.size
            have HLJ : Hid ((sitesText thr sts (r.sites.take j)).length ≤ 1048601 * j) := Lib.hid (by
              have h1 := sitesText_len thr sts (r.sites.take j) HTH.out HSK.out
              have h2 := List.length_take_le j r.sites
              exact Nat.le_trans h1 (by omega))
            by_cases hjt : j < r.sites.length
            · obtain ⟨x, hx⟩ : ∃ x, r.sites[j]? = some x := ⟨_, List.getElem?_eq_getElem hjt⟩
              obtain ⟨A9, c9, hv9, -, -, hI9, hr9⟩ := HI1.out.keep HBW.out
              injection hv9 with e1 _ e2
              subst e1 e2
              obtain ⟨b9, o9, rfl, hb9, hc9⟩ := hr9.int hx
              have HXX := Lib.hid hx
              have HXI := Lib.hid (hI9 x (List.mem_of_getElem? hx))
              have HBX : Hid (Blk wr w.heap.size 70 #[c0, c1, c2, c3, .slice At thr.length ct, .slice As sts.length cs]) := Lib.hid (HBK.out.below HKW.out.below (by omega))
              have hsl := siteText_len thr sts x HTH.out HSK.out
              have q0 := HBX.out.cell 0
              have q1' := HBX.out.cell 1
              have q2' := HBX.out.cell 2
              have q3' := HBX.out.cell 3
              have q4' := HBX.out.cell 4
              have q5' := HBX.out.cell 5
              simp only [List.getElem?_toArray, List.getElem?_cons_zero, List.getElem?_cons_succ] at q0 q1' q2' q3' q4' q5'
              have ljt : (j : Int) < r.sites.length := by omega
              clear hx hI9 hr9
              go_wp2_with fail
              refine (place_any _ thr sts x _ (HWL.out.keep HBW.out) (HT.out.keep HBW.out htl) HXI.out).mono ?_
              rintro e w7 ⟨rfl, hb7⟩
              have HB7 := Lib.hid hb7
              have hb7s := hb7.size
              clear hb7 q0 q1' q2' q3' q4' q5' hc9
              go_wp2_with fail
              refine (writeString_any (w.heap.size + 1) (w.heap.size + 1) _ _ _ (isBuilder_keep HBJ.out HB7.out) ?hlen (by omega)).mono ?_
              case hlen =>
                rw [str_blank, Lib.byteCells_length, bsize]
                have h1 := HLA.out
                have h2 := HLJ.out
                simp only [List.length_append, List.length_cons]
                omega
              rintro e w8 ⟨rfl, h8, k8⟩
              rw [str_blank, strCells_of, ← byteCells_append] at h8
              have HB8 : Hid (Lib.IsBuilder 104 5 (w.heap.size + 1) (w.heap.size + 1) (Lib.byteCells (acc ++ headOf r ++ sitesText thr sts (r.sites.take j) ++ (32 :: siteText thr sts x))) w8) := Lib.hid (.inr h8)
              have HK8 : Hid (Kept (w.heap.size + 1) (w.heap.size + 1) w6 w8) := Lib.hid (HKJ.out.trans ((Kept.of_below HB7.out (by omega)).trans k8))
              clear h8 k8
              go_wp2_with fail
              go_roundw
              case rel => exact ⟨j + 1, by omega, by go_num, by rw [sitesText_succ HXX.out, ← List.append_assoc]; exact HB8, HK8⟩
              case measure => simp [intOf]; omega
            · have HBA : Hid (Lib.IsBuilder 104 5 (w.heap.size + 1) (w.heap.size + 1) (Lib.byteCells (acc ++ headOf r ++ sitesText thr sts r.sites)) wr) := Lib.hid (by
                have h := HBJ.out
                rwa [List.take_of_length_le (by omega)] at h)
              have HLX : Hid ((sitesText thr sts r.sites).length ≤ 1048601 * r.sites.length) := Lib.hid (sitesText_len thr sts r.sites HTH.out HSK.out)
              go_wp2_with fail
              refine (writeByte_any (w.heap.size + 1) (w.heap.size + 1) _ _ _ HBA.out ?hlen (by omega)).mono ?_
              case hlen =>
                rw [Lib.byteCells_length]
                have h1 := HLA.out
                have h2 := HLX.out
                simp only [List.length_append]
                omega
              rintro e w8 ⟨rfl, h8, k8⟩
              have HB8 : Hid (Lib.IsBuilder 104 5 (w.heap.size + 1) (w.heap.size + 1) (Lib.byteCells (repsText thr sts ((ps.map (·.1)).take (k + 1)))) w8) := Lib.hid (.inr (by
                rw [HACT.out, byteCells_append _ [10]]
                exact h8))
              have HK8 : Hid (Kept (w.heap.size + 1) (w.heap.size + 1) w1 w8) := Lib.hid (HKW.out.trans k8)
              clear h8 k8
              go_wp2_with fail
              go_roundw
              case rel => exact ⟨k + 1, by omega, by go_num, HB8, HK8⟩
              case measure => simp [intOf]; omega
        · have d0 : decide (0 < kd) = false := by simpa using h0
          clear hk5
          go_wp2_with fail
          obtain ⟨w3, hw3⟩ : ∃ w3 : World, w3 = wr.alloc (.cells #[.int .i64 kd, .slice As1 r.sites.length cs1, .slice At1 r.starts.length ct1, .int .i64 r.count, .int .i64 r.best, .int .i64 r.score] 61) := ⟨_, rfl⟩
          have HB3 : Hid (Below wr.heap.size wr w3) := by rw [hw3]; exact Lib.hid (by go_grown)
          have HK3 : Hid (Blk w3 wr.heap.size 61 #[.int .i64 kd, .slice As1 r.sites.length cs1, .slice At1 r.starts.length ct1, .int .i64 r.count, .int .i64 r.best, .int .i64 r.score]) := by rw [hw3]; exact Lib.hid (Blk.new _ _ _)
          rw [← hw3]
          clear hw3
          have HACC : Hid (Lib.IsBuilder 104 5 (w.heap.size + 1) (w.heap.size + 1) (Lib.byteCells (repsText thr sts ((ps.map (·.1)).take k))) w3) := Lib.hid (isBuilder_keep HBk.out HB3.out)
          have HKA : Hid (Kept (w.heap.size + 1) (w.heap.size + 1) w1 w3) := Lib.hid (HKk.out.trans (Kept.of_below HB3.out (by omega)))
          have HLA : Hid ((repsText thr sts ((ps.map (·.1)).take k)).length + (headOf r).length + 1048601 * (r.sites.length + 1) ≤ 1048601 * 1000000 + 52) := Lib.hid (by have h1 := HLT.out; have h2 := HSM.out; have h3 := HHL.out; have h4 := HSZ.out; omega)
          have HACT : Hid (repsText thr sts ((ps.map (·.1)).take (k + 1)) = repsText thr sts ((ps.map (·.1)).take k) ++ headOf r ++ sitesText thr sts r.sites ++ [10]) := Lib.hid (repsText_succ HR.out)
          obtain ⟨acc, hacc⟩ : ∃ acc, acc = repsText thr sts ((ps.map (·.1)).take k) := ⟨_, rfl⟩
          rw [← hacc] at HACC HLA HACT
          clear hacc
          have HXE : Hid ((ByteArray.mk W.toArray ++ ByteArray.mk #[32] ++ ByteArray.mk (Lib.itoa r.score).toArray ++ ByteArray.mk #[32] ++ ByteArray.mk (Lib.itoa r.count).toArray) = ByteArray.mk (headOf r).toArray) := Lib.hid (by rw [HWW.out]; exact str_head r)
          have HIT : Hid (∀ n w', I64 n → Below w3.heap.size w3 w' → Calls Tryd.prog 48 #[.int .i64 n] w' fun e w'' => e = .returned (.string ⟨(Lib.itoa n).toArray⟩) ∧ Below w3.heap.size w3 w'') := Lib.hid (fun n w' hn hb => by
            refine (itoa_any n w' hn (HT.out.keep ((HBR.out.trans (HB3.out.mono HBR.out.size)).trans (hb.mono (Nat.le_trans HBR.out.size HB3.out.size))) htl)).mono ?_
            rintro e w'' ⟨rfl, h⟩
            exact ⟨rfl, hb.trans (h.mono hb.size)⟩)
          have HSOF : Hid (∀ w', Below w3.heap.size w3 w' → w'.cell? ⟨wr.heap.size, 1, none⟩ = some (.slice As1 r.sites.length cs1) ∧ w'.cell? ⟨wr.heap.size, 3, none⟩ = some (.int .i64 r.count) ∧ w'.cell? ⟨wr.heap.size, 5, none⟩ = some (.int .i64 r.score)) := Lib.hid (fun w' hb => by
            have h := HK3.out.keep hb
            have h1 := h.cell 1
            have h3 := h.cell 3
            have h5 := h.cell 5
            simp only [List.getElem?_toArray, List.getElem?_cons_zero, List.getElem?_cons_succ] at h1 h3 h5
            exact ⟨h1, h3, h5⟩)
          have HWS : Hid (∀ w', Below w3.heap.size w3 w' → Calls Tryd.prog 47 #[.pointer (some ⟨w.heap.size + 1, 0, none⟩), .string (ByteArray.mk W.toArray ++ ByteArray.mk #[32] ++ ByteArray.mk (Lib.itoa r.score).toArray ++ ByteArray.mk #[32] ++ ByteArray.mk (Lib.itoa r.count).toArray)] w' fun e w'' => ∃ n, e = .returned (.tuple #[.int .i64 n, .nilIface]) ∧ (w''.cell? ⟨wr.heap.size, 1, none⟩ = some (.slice As1 r.sites.length cs1) ∧ w''.cell? ⟨wr.heap.size, 3, none⟩ = some (.int .i64 r.count) ∧ w''.cell? ⟨wr.heap.size, 5, none⟩ = some (.int .i64 r.score)) ∧ Lib.IsBuilder 104 5 (w.heap.size + 1) (w.heap.size + 1) (Lib.byteCells (acc ++ headOf r)) w'' ∧ Kept (w.heap.size + 1) (w.heap.size + 1) w3 w'') := Lib.hid (fun w' hb => by
            have hB : w.heap.size + 1 ≤ w'.heap.size := by have h1 := hb.size; have h2 := HB3.out.size; omega
            have hk := Kept.of_below (b := w.heap.size + 1) hb (show w.heap.size + 1 ≤ w3.heap.size by have h2 := HB3.out.size; omega)
            refine (writeString_any (w.heap.size + 1) (w.heap.size + 1) _ _ w' (isBuilder_keep HACC.out hb) ?_ hB).mono ?_
            · rw [HXE.out, Lib.byteCells_length, bsize]; have := HLA.out; omega
            · rintro e w'' ⟨rfl, h1, h2⟩
              have h := h2.blk (HK3.out.keep hb) (by omega) (by decide)
              have q1 := h.cell 1
              have q3 := h.cell 3
              have q5 := h.cell 5
              simp only [List.getElem?_toArray, List.getElem?_cons_zero, List.getElem?_cons_succ] at q1 q3 q5
              refine ⟨_, rfl, ⟨q1, q3, q5⟩, .inr ?_, hk.trans h2⟩
              rw [HXE.out, strCells_of, ← byteCells_append] at h1
              exact h1)
          have hI1 := HRO.out.2.2.2
          have hI2 := HRO.out.2.1
          have hs3 := HSOF.out w3 (Below.refl _ _)
          have f1 : (9223372036854775807 < W.length + 1) = False := eq_false (by omega)
          have f2 : (9223372036854775807 < W.length + 1 + (Lib.itoa r.score).length) = False := eq_false (by omega)
          have f3 : (9223372036854775807 < W.length + 1 + (Lib.itoa r.score).length + 1) = False := eq_false (by omega)
          have f4 : (9223372036854775807 < W.length + 1 + (Lib.itoa r.score).length + 1 + (Lib.itoa r.count).length) = False := eq_false (by omega)
          have HQR : Hid (w3.heap.size ≥ w.heap.size + 2 ∧ wr.heap.size < w3.heap.size) := Lib.hid ⟨by have h2 := HB3.out.size; omega, HK3.out.lt⟩
          clear k0 k1 k2 k3 k4 k5 g0' h0 d0
          go_region_held3 (fun w' => w'.cell? ⟨wr.heap.size, 1, none⟩ = some (.slice As1 r.sites.length cs1) ∧ w'.cell? ⟨wr.heap.size, 3, none⟩ = some (.int .i64 r.count) ∧ w'.cell? ⟨wr.heap.size, 5, none⟩ = some (.int .i64 r.score)) (first | with_reducible assumption | exact HSOF.out _ (Below.refl _ _).drew) (first
            | (go_at_call 48; (with_reducible refine (HIT.out _ _ (by with_reducible assumption) (by first | with_reducible assumption | exact (Below.refl _ _).drew)).mono ?_); rintro e w5 ⟨rfl, hb3⟩; have hs3 := HSOF.out w5 hb3)
            | (go_at_call 47; (with_reducible refine (HWS.out _ (by with_reducible assumption)).mono ?_); rintro e w6 ⟨n6, rfl, hs3, h6, k6⟩; have HB6 := Lib.hid h6; have HK6 := Lib.hid k6; clear h6 k6))
          clear f1 f2 f3 f4 hil1 hil2
          have hq1 := hs3.1
          clear hs3
          go_wp2_with fail
          clear hq1
          go_loopw [46] (fun i wr' => ∃ j : Nat, j ≤ r.sites.length ∧ i = .int .i64 j ∧ Hid (Lib.IsBuilder 104 5 (w.heap.size + 1) (w.heap.size + 1) (Lib.byteCells (acc ++ headOf r ++ sitesText thr sts (r.sites.take j))) wr') ∧ Hid (Kept (w.heap.size + 1) (w.heap.size + 1) w6 wr')) (fun i _ => r.sites.length - (intOf i).toNat)
          case atStart => exact ⟨0, by omega, rfl, Lib.hid (by simpa [sitesText] using HB6.out), Lib.hid (Kept.refl _ _ _)⟩
          case round =>
            obtain ⟨j, hj, rfl, HBJ, HKJ⟩ := hrel
            have HKW : Hid (Kept (w.heap.size + 1) (w.heap.size + 1) w1 wr) := Lib.hid (HKA.out.trans (HK6.out.trans HKJ.out))
            have HBW : Hid (Below w.heap.size w wr) := Lib.hid (HB1.out.trans (HKW.out.below.mono (by omega)))
            have hBq : w.heap.size + 2 ≤ wr.heap.size := Nat.le_trans hz1 HKW.out.below.size
            have HLJ : Hid ((sitesText thr sts (r.sites.take j)).length ≤ 1048601 * j) := Lib.hid (by
              have h1 := sitesText_len thr sts (r.sites.take j) HTH.out HSK.out
              have h2 := List.length_take_le j r.sites
              exact Nat.le_trans h1 (by omega))
            by_cases hjt : j < r.sites.length
            · obtain ⟨x, hx⟩ : ∃ x, r.sites[j]? = some x := ⟨_, List.getElem?_eq_getElem hjt⟩
              obtain ⟨A9, c9, hv9, -, -, hI9, hr9⟩ := HI1.out.keep HBW.out
              injection hv9 with e1 _ e2
              subst e1 e2
              obtain ⟨b9, o9, rfl, hb9, hc9⟩ := hr9.int hx
              have HXX := Lib.hid hx
              have HXI := Lib.hid (hI9 x (List.mem_of_getElem? hx))
              have HBX : Hid (Blk wr w.heap.size 70 #[c0, c1, c2, c3, .slice At thr.length ct, .slice As sts.length cs]) := Lib.hid (HBK.out.below HKW.out.below (by omega))
              have hsl := siteText_len thr sts x HTH.out HSK.out
              have q0 := HBX.out.cell 0
              have q1' := HBX.out.cell 1
              have q2' := HBX.out.cell 2
              have q3' := HBX.out.cell 3
              have q4' := HBX.out.cell 4
              have q5' := HBX.out.cell 5
              simp only [List.getElem?_toArray, List.getElem?_cons_zero, List.getElem?_cons_succ] at q0 q1' q2' q3' q4' q5'
              have ljt : (j : Int) < r.sites.length := by omega
              clear hx hI9 hr9
              go_wp2_with fail
              refine (place_any _ thr sts x _ (HWL.out.keep HBW.out) (HT.out.keep HBW.out htl) HXI.out).mono ?_
              rintro e w7 ⟨rfl, hb7⟩
              have HB7 := Lib.hid hb7
              have hb7s := hb7.size
              clear hb7 q0 q1' q2' q3' q4' q5' hc9
              go_wp2_with fail
              refine (writeString_any (w.heap.size + 1) (w.heap.size + 1) _ _ _ (isBuilder_keep HBJ.out HB7.out) ?hlen (by omega)).mono ?_
              case hlen =>
                rw [str_blank, Lib.byteCells_length, bsize]
                have h1 := HLA.out
                have h2 := HLJ.out
                simp only [List.length_append, List.length_cons]
                omega
              rintro e w8 ⟨rfl, h8, k8⟩
              rw [str_blank, strCells_of, ← byteCells_append] at h8
              have HB8 : Hid (Lib.IsBuilder 104 5 (w.heap.size + 1) (w.heap.size + 1) (Lib.byteCells (acc ++ headOf r ++ sitesText thr sts (r.sites.take j) ++ (32 :: siteText thr sts x))) w8) := Lib.hid (.inr h8)
              have HK8 : Hid (Kept (w.heap.size + 1) (w.heap.size + 1) w6 w8) := Lib.hid (HKJ.out.trans ((Kept.of_below HB7.out (by omega)).trans k8))
              clear h8 k8
              go_wp2_with fail
              go_roundw
              case rel => exact ⟨j + 1, by omega, by go_num, by rw [sitesText_succ HXX.out, ← List.append_assoc]; exact HB8, HK8⟩
              case measure => simp [intOf]; omega
            · have HBA : Hid (Lib.IsBuilder 104 5 (w.heap.size + 1) (w.heap.size + 1) (Lib.byteCells (acc ++ headOf r ++ sitesText thr sts r.sites)) wr) := Lib.hid (by
                have h := HBJ.out
                rwa [List.take_of_length_le (by omega)] at h)
              have HLX : Hid ((sitesText thr sts r.sites).length ≤ 1048601 * r.sites.length) := Lib.hid (sitesText_len thr sts r.sites HTH.out HSK.out)
              go_wp2_with fail
              refine (writeByte_any (w.heap.size + 1) (w.heap.size + 1) _ _ _ HBA.out ?hlen (by omega)).mono ?_
              case hlen =>
                rw [Lib.byteCells_length]
                have h1 := HLA.out
                have h2 := HLX.out
                simp only [List.length_append]
                omega
              rintro e w8 ⟨rfl, h8, k8⟩
              have HB8 : Hid (Lib.IsBuilder 104 5 (w.heap.size + 1) (w.heap.size + 1) (Lib.byteCells (repsText thr sts ((ps.map (·.1)).take (k + 1)))) w8) := Lib.hid (.inr (by
                rw [HACT.out, byteCells_append _ [10]]
                exact h8))
              have HK8 : Hid (Kept (w.heap.size + 1) (w.heap.size + 1) w1 w8) := Lib.hid (HKW.out.trans k8)
              clear h8 k8
              go_wp2_with fail
              go_roundw
              case rel => exact ⟨k + 1, by omega, by go_num, HB8, HK8⟩
              case measure => simp [intOf]; omega
    · have HBA : Hid (Lib.IsBuilder 104 5 (w.heap.size + 1) (w.heap.size + 1) (Lib.byteCells (repsText thr sts (ps.map (·.1)))) wr) := Lib.hid (by
        have h := HBk.out
        rwa [List.take_of_length_le (by rw [List.length_map]; omega)] at h)
      go_wp2_with fail
      refine (Tryd.Builder_String_any _ _ (repsText thr sts (ps.map (·.1))) _ HBA.out (by omega)).mono ?_
      rintro e w3 ⟨rfl, hb3⟩
      have HB3 := Lib.hid hb3
      clear hb3
      go_wp2_with fail
      go_ret
      exact ⟨rfl, HBR.out.trans (HB3.out.mono (by omega))⟩
end Go.Proofs.YtccpelfnkjckiaaDoor
