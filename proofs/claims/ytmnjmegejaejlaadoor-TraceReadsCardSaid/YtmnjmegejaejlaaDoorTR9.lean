/-
  PLAIN LAW: what a text of a trace is read as: line by line.
  CONTRACTS: strconv.ParseInt, strconv.FormatInt in this seat's words; what the variables hold.
-/
import Derived.Test.YtmnjmegejaejlaaDoorTR8
import Derived.Test.YtmnjmegejaejlaaDoorTR7
import Derived.Test.YtmnjmegejaejlaaDoorTR5
import Derived.Lib.ParseIntBTie
namespace Go.Proofs.YtmnjmegejaejlaaDoor

structure Cel where
  name : List UInt8
  index : Int
  size : Int
  vol : Bool
  init : Int
structure Lck where
  name : List UInt8
  rw : Bool
structure Cnd where
  name : List UInt8
  mutex : Int
structure Sit where
  thread : Int
  stmt : Int
  line : Int
structure Evn where
  thread : Int
  kind : Int
  obj : Int
  value : Int
  site : Int
  deps : List Int
  frm : List Int
structure Trc where
  cells : List Cel
  locks : List Lck
  conds : List Cnd
  futs : List (List UInt8)
  thrs : List (List UInt8)
  sites : List Sit
  events : List Evn
def trc0 : Trc := ⟨[], [], [], [], [], [], []⟩
/-- The object of a line. -/
inductive Item where
  | cell (c : Cel)
  | lock (l : Lck)
  | cond (c : Cnd)
  | fut (n : List UInt8)
  | thr (n : List UInt8)
  | site (s : Sit)
  | event (e : Evn)
def Item.group : Item → Nat
  | .cell _ => 1
  | .lock _ => 2
  | .cond _ => 3
  | .fut _ => 4
  | .thr _ => 5
  | .site _ => 6
  | .event _ => 7
def Trc.add (t : Trc) : Item → Trc
  | .cell c => { t with cells := t.cells ++ [c] }
  | .lock l => { t with locks := t.locks ++ [l] }
  | .cond c => { t with conds := t.conds ++ [c] }
  | .fut n => { t with futs := t.futs ++ [n] }
  | .thr n => { t with thrs := t.thrs ++ [n] }
  | .site s => { t with sites := t.sites ++ [s] }
  | .event e => { t with events := t.events ++ [e] }
def wCell : List UInt8 := [99, 101, 108, 108]
def wVol : List UInt8 := [118, 111, 108, 97, 116, 105, 108, 101]
def wMutex : List UInt8 := [109, 117, 116, 101, 120]
def wRw : List UInt8 := [114, 119, 108, 111, 99, 107]
def wCond : List UInt8 := [99, 111, 110, 100]
def wFut : List UInt8 := [102, 117, 116, 117, 114, 101]
def wThr : List UInt8 := [116, 104, 114, 101, 97, 100]
def wSite : List UInt8 := [115, 105, 116, 101]
def wEvent : List UInt8 := [101, 118, 101, 110, 116]
def wDeps : List UInt8 := [100, 101, 112, 115]
def wFrom : List UInt8 := [102, 114, 111, 109]
/-- The words of the kinds 1 to 23. -/
def kindsL : List (List UInt8) := [[98, 101, 103, 105, 110], [101, 110, 100], [108, 111, 97, 100], [115, 116, 111, 114, 101], [98, 114, 97, 110, 99, 104], [97, 99, 113, 117, 105, 114, 101], [114, 101, 108, 101, 97, 115, 101], [114, 101, 97, 100, 97, 99, 113, 117, 105, 114, 101], [114, 101, 97, 100, 114, 101, 108, 101, 97, 115, 101], [119, 114, 105, 116, 101, 97, 99, 113, 117, 105, 114, 101], [119, 114, 105, 116, 101, 114, 101, 108, 101, 97, 115, 101], [116, 120, 98, 101, 103, 105, 110], [116, 120, 101, 110, 100], [97, 116, 111, 109, 105, 99, 98, 101, 103, 105, 110], [97, 116, 111, 109, 105, 99, 101, 110, 100], [119, 97, 105, 116], [119, 97, 107, 101], [110, 111, 116, 105, 102, 121], [110, 111, 116, 105, 102, 121, 97, 108, 108], [115, 112, 97, 119, 110], [106, 111, 105, 110], [115, 101, 116], [103, 101, 116]]
/-- The words that are no names. -/
def keysL : List (List UInt8) := [[118, 97, 114], [118, 111, 108, 97, 116, 105, 108, 101], [109, 117, 116, 101, 120], [114, 119, 108, 111, 99, 107], [99, 111, 110, 100], [102, 117, 116, 117, 114, 101], [116, 104, 114, 101, 97, 100], [105, 102], [101, 108, 115, 101], [119, 104, 105, 108, 101], [108, 111, 99, 107], [114, 101, 97, 100], [119, 114, 105, 116, 101], [116, 114, 97, 110, 115, 97, 99, 116, 105, 111, 110], [97, 116, 111, 109, 105, 99], [119, 97, 105, 116], [110, 111, 116, 105, 102, 121], [110, 111, 116, 105, 102, 121, 97, 108, 108], [115, 112, 97, 119, 110], [106, 111, 105, 110], [115, 101, 116], [103, 101, 116]]
def letterB (c : UInt8) : Bool := (97 ≤ c && c ≤ 122) || (65 ≤ c && c ≤ 90)
def innerB (c : UInt8) : Bool := letterB c || (48 ≤ c && c ≤ 57) || c == 95
/-- A name. -/
def nameB (s : List UInt8) : Bool := match s with
  | [] => false
  | c :: r => decide (s.length ≤ 12) && letterB c && !keysL.contains s && r.all innerB
/-- The number of a kind's word. -/
def kindI (s : List UInt8) : Option Nat := (kindsL.findIdx? (· == s)).map (· + 1)
/-- The numbers behind a word; what is left. -/
def listI (word : List UInt8) : List (List UInt8) → Option (List Int × List (List UInt8))
  | [] => some ([], [])
  | h :: t => if h = word then (if t.takeWhile (· ≠ wFrom) = [] then none else ((t.takeWhile (· ≠ wFrom)).mapM canonI).map fun ns => (ns, t.dropWhile (· ≠ wFrom))) else some ([], h :: t)
/-- The two lists of an event. -/
def restI (l : List (List UInt8)) : Option (List Int × List Int) :=
  (listI wDeps l).bind fun p => (listI wFrom p.2).bind fun q => if q.2 = [] then some (p.1, q.1) else none
def eventI : List (List UInt8) → Option Evn
  | a :: k :: o :: v :: s :: rest => match canonI a, kindI k, canonI o, canonI v, canonI s, restI rest with
    | some x, some j, some y, some z, some u, some p => some ⟨x, j, y, z, u, p.1, p.2⟩
    | _, _, _, _, _, _ => none
  | _ => none
/-- The object with a name and numbers. -/
def namedI (h n : List UInt8) (ns : List Int) : Option Item :=
  if h = wCell ∨ h = wVol then (match ns with
    | [x, y, z] => some (.cell ⟨n, x, y, decide (h = wVol), z⟩)
    | _ => none)
  else if h = wMutex ∨ h = wRw then (if ns = [] then some (.lock ⟨n, decide (h = wRw)⟩) else none)
  else if h = wCond then (match ns with
    | [x] => some (.cond ⟨n, x⟩)
    | _ => none)
  else if h = wFut then (if ns = [] then some (.fut n) else none)
  else if h = wThr then (if ns = [] then some (.thr n) else none)
  else none
/-- The object of a line's parts. -/
def itemI (h : List UInt8) (ps : List (List UInt8)) : Option Item :=
  if h = wEvent then (eventI ps).map .event
  else if h = wSite then (match ps.mapM canonI with
    | some [x, y, z] => some (.site ⟨x, y, z⟩)
    | _ => none)
  else match ps with
    | [] => none
    | n :: qs => if nameB n = true then (qs.mapM canonI).bind (namedI h n) else none
def lineI (line : List UInt8) : Option Item := match pieces 32 line with
  | [] => none
  | h :: ps => itemI h ps
theorem lineI_of {line h : List UInt8} {ps : List (List UInt8)} (e : pieces 32 line = h :: ps) : lineI line = itemI h ps := by unfold lineI; rw [e]
/-- How a reading ends. -/
inductive TEnd where
  | ok (t : Trc)
  | bad (line : Nat)
/-- The reading of what is behind line k - 1, with the trace t read, whose last line is of group g. -/
inductive RunT : Trc → Nat → Nat → List UInt8 → TEnd → Prop where
  | done (t : Trc) (g k : Nat) : RunT t g k [] (.ok t)
  | cut {t : Trc} {g k : Nat} {r : List UInt8} : r ≠ [] → (10 : UInt8) ∉ r → RunT t g k r (.bad k)
  | wrong {t : Trc} {g k : Nat} {r a b : List UInt8} : r = a ++ 10 :: b → (10 : UInt8) ∉ a → (∀ i, lineI a = some i → i.group < g) → RunT t g k r (.bad k)
  | next {t : Trc} {g k : Nat} {i : Item} {r a b : List UInt8} {e : TEnd} : r = a ++ 10 :: b → (10 : UInt8) ∉ a → lineI a = some i → ¬ i.group < g → RunT (t.add i) i.group (k + 1) b e → RunT t g k r e
theorem nl_uniqueT {a b a' b' : List UInt8} (h1 : (10 : UInt8) ∉ a) (h2 : (10 : UInt8) ∉ a') (h : a ++ 10 :: b = a' ++ 10 :: b') : a = a' ∧ b = b' := by
  have e := congrArg (fun l => pieces 10 l) h
  simp only [pieces_app b h1, pieces_app b' h2, List.cons.injEq] at e
  have e1 := e.1
  subst e1
  have e2 := List.append_cancel_left h
  injection e2 with _ e2
  exact ⟨rfl, e2⟩
theorem RunT.fn {t : Trc} {g k : Nat} {r : List UInt8} {e e' : TEnd} (h : RunT t g k r e) (h' : RunT t g k r e') : e = e' := by
  induction h with
  | done t g k =>
    cases h' with
    | done => rfl
    | cut h1 _ => exact absurd rfl h1
    | wrong h1 _ _ => simp at h1
    | next h1 _ _ _ _ => simp at h1
  | cut h1 h2 =>
    cases h' with
    | done => exact absurd rfl h1
    | cut _ _ => rfl
    | wrong h3 _ _ => exact absurd (by rw [h3]; simp) h2
    | next h3 _ _ _ _ => exact absurd (by rw [h3]; simp) h2
  | wrong h1 h2 h3 =>
    cases h' with
    | done => simp at h1
    | cut _ h4 => exact absurd (by rw [h1]; simp) h4
    | wrong _ _ _ => rfl
    | next h4 h5 h6 h7 _ =>
      obtain ⟨rfl, rfl⟩ := nl_uniqueT h2 h5 (h1.symm.trans h4)
      exact absurd (h3 _ h6) h7
  | next h1 h2 h3 hg _ ih =>
    cases h' with
    | done => simp at h1
    | cut _ h4 => exact absurd (by rw [h1]; simp) h4
    | wrong h4 h5 h6 =>
      obtain ⟨rfl, rfl⟩ := nl_uniqueT h2 h5 (h1.symm.trans h4)
      exact absurd (h6 _ h3) hg
    | next h4 h5 h6 h7 h8 =>
      obtain ⟨rfl, rfl⟩ := nl_uniqueT h2 h5 (h1.symm.trans h4)
      rw [h3] at h6
      injection h6 with h6
      subst h6
      exact ih h8
end Go.Proofs.YtmnjmegejaejlaaDoor

namespace Go.Proofs.YtmnjmegejaejlaaDoor
open Go.RowKit

/-- An error, or none. -/
def IsErr (v : Value) : Prop := v = .nilIface ∨ ∃ te pe, v = .iface te pe
def GT (B : Nat) : Prop := 1 < B ∧ 4 < B ∧ 5 < B ∧ 2 < B ∧ 0 < B ∧ 3 < B
/-- What the variables hold. -/
structure PT (w : World) : Prop where
  gb : GT w.heap.size
  ml : ML w
  tab : Tab w
  e1 : ∃ v, w.cell? ⟨4, 0, none⟩ = some v ∧ IsErr v
  e2 : ∃ v, w.cell? ⟨5, 0, none⟩ = some v ∧ IsErr v
  kd : ∀ (k : Nat) (s : List UInt8), ([] :: kindsL)[k]? = some s → w.cell? ⟨0, k, none⟩ = some (.string ⟨s.toArray⟩)
  kw : ∀ (k : Nat) (s : List UInt8), keysL[k]? = some s → w.cell? ⟨3, k, none⟩ = some (.string ⟨s.toArray⟩)
theorem PT.keep {B : Nat} {w w' : World} (h : PT w) (hb : Below B w w') (hB : GT B) : PT w' := by
  obtain ⟨v, h1, h2⟩ := h.e1
  obtain ⟨u, h3, h4⟩ := h.e2
  obtain ⟨b0, b1, b2, b3, b4, b5⟩ := hB
  obtain ⟨g0, g1, g2, g3, g4, g5⟩ := h.gb
  have hs := hb.size
  exact ⟨⟨by omega, by omega, by omega, by omega, by omega, by omega⟩, h.ml.keep hb b0, h.tab.keep hb b3, ⟨v, (hb.cell (p := ⟨4, 0, none⟩) b1).trans h1, h2⟩, ⟨u, (hb.cell (p := ⟨5, 0, none⟩) b2).trans h3, h4⟩,
    fun k s hk => (hb.cell (p := ⟨0, k, none⟩) b4).trans (h.kd k s hk), fun k s hk => (hb.cell (p := ⟨3, k, none⟩) b5).trans (h.kw k s hk)⟩
theorem PT.below {w w' : World} (h : PT w) (hb : Below w.heap.size w w') : PT w' := h.keep hb h.gb
theorem PT.grown {w w' : World} {g B : Nat} (h : PT w) (hg : w.grownBy w' (some g)) (hB : B ≤ g) (hs : B ≤ w.heap.size) (hB2 : GT B) : PT w' :=
  h.keep (grownBy_below hg hs fun k e => by injection e with e; omega) hB2

theorem pint_ok (p : List UInt8) (v : Int) (w : World) (h : Lib.atoiAll p = .ok v) (hl : p.length ≤ 1000000000) :
    Calls Tryd.prog 51 #[.string ⟨p.toArray⟩, .int .i64 10, .int .i64 64] w fun e w' => e = .returned (.tuple #[.int .i64 v, .nilIface]) ∧ Below w.heap.size w w' := by
  refine (Tryd.strconv_ParseInt_10_at64_ok ⟨p.toArray⟩ (by show p.toArray.size ≤ _; simp; omega) v (by rw [Lib.parseIntB_64]; exact h) w).mono ?_
  rintro e w' ⟨rfl, hw⟩
  refine ⟨rfl, ?_⟩
  rcases hw with rfl | ⟨t, rfl⟩
  · exact Below.refl _ _
  · exact Lib.bytesWorld_below _ _ _
theorem intSat_64 (p : List UInt8) : Lib.intSat 64 p = Lib.atoiSat p := rfl
/-- What ParseInt does to a text that is no number. -/
def PIntBad (p : List UInt8) (w : World) (e : Ending) (w' : World) : Prop :=
  ∃ v N, e = .returned (.tuple #[.int .i64 v, .iface 137 (.pointer (some ⟨N, 0, none⟩))]) ∧ Lib.itoa v ≠ p ∧ I64 v ∧ Below w.heap.size w w'
theorem pint_bad (p : List UInt8) (w : World) (h : ∀ v, Lib.atoiAll p ≠ .ok v) (hl : p.length ≤ 1000000000) (hp : PT w) : Calls Tryd.prog 51 #[.string ⟨p.toArray⟩, .int .i64 10, .int .i64 64] w (PIntBad p w) := by
  rcases atoi_three p with ⟨v, hs⟩ | hs | hs
  · exact absurd hs (h v)
  · obtain ⟨ev, h1, h2⟩ := hp.e1
    refine (Tryd.strconv_ParseInt_10_at64_syntax ⟨p.toArray⟩ (by show p.toArray.size ≤ _; simp; omega) (by rw [Lib.parseIntB_64]; exact hs) ev w h1 h2).mono ?_
    rintro e w' ⟨N, rfl, _, _, hb⟩
    exact ⟨0, N, rfl, (canonI_syntax hs).2, by unfold I64; omega, hb⟩
  · obtain ⟨ev, h1, h2⟩ := hp.e2
    refine (Tryd.strconv_ParseInt_10_at64_range ⟨p.toArray⟩ (by show p.toArray.size ≤ _; simp; omega) (by rw [Lib.parseIntB_64]; exact hs) ev w h1 h2).mono ?_
    rintro e w' ⟨N, rfl, _, _, hb⟩
    exact ⟨Lib.atoiSat p, N, rfl, (canonI_range hs).2, by unfold I64 Lib.atoiSat; split <;> omega, hb⟩
theorem fint_any (n : Int) (w : World) (hn : I64 n) (hT : Tab w) :
    Calls Tryd.prog 24 #[.int .i64 n, .int .i64 10] w fun e w' => e = .returned (.string ⟨(Lib.itoa n).toArray⟩) ∧ Below w.heap.size w w' := by
  refine (Tryd.strconv_FormatInt_10 n hn.1 hn.2 w hT).mono ?_
  rintro e w' ⟨rfl, k, os, rfl⟩
  exact ⟨rfl, below_grow w k os⟩
end Go.Proofs.YtmnjmegejaejlaaDoor
