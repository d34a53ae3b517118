/-
  PLAIN LAW: what a text of a trace is read as: line by line.
-/
import Derived.Test.YtmnjmegejaejlaaDoorTT8
namespace Go.Proofs.YtmnjmegejaejlaaDoor

structure Cel where
  name : List UInt8
  index : Int
  size : Int
  vol : Bool
  init : Int
structure Lck where
  name : List UInt8
  rw : Bool
structure Cnd where
  name : List UInt8
  mutex : Int
structure Sit where
  thread : Int
  stmt : Int
  line : Int
structure Evn where
  thread : Int
  kind : Int
  obj : Int
  value : Int
  site : Int
  deps : List Int
  frm : List Int
structure Trc where
  cells : List Cel
  locks : List Lck
  conds : List Cnd
  futs : List (List UInt8)
  thrs : List (List UInt8)
  sites : List Sit
  events : List Evn
def trc0 : Trc := ⟨[], [], [], [], [], [], []⟩
/-- The object of a line. -/
inductive Item where
  | cell (c : Cel)
  | lock (l : Lck)
  | cond (c : Cnd)
  | fut (n : List UInt8)
  | thr (n : List UInt8)
  | site (s : Sit)
  | event (e : Evn)
def Item.group : Item → Nat
  | .cell _ => 1
  | .lock _ => 2
  | .cond _ => 3
  | .fut _ => 4
  | .thr _ => 5
  | .site _ => 6
  | .event _ => 7
def Trc.add (t : Trc) : Item → Trc
  | .cell c => { t with cells := t.cells ++ [c] }
  | .lock l => { t with locks := t.locks ++ [l] }
  | .cond c => { t with conds := t.conds ++ [c] }
  | .fut n => { t with futs := t.futs ++ [n] }
  | .thr n => { t with thrs := t.thrs ++ [n] }
  | .site s => { t with sites := t.sites ++ [s] }
  | .event e => { t with events := t.events ++ [e] }
def wCell : List UInt8 := [99, 101, 108, 108]
def wVol : List UInt8 := [118, 111, 108, 97, 116, 105, 108, 101]
def wMutex : List UInt8 := [109, 117, 116, 101, 120]
def wRw : List UInt8 := [114, 119, 108, 111, 99, 107]
def wCond : List UInt8 := [99, 111, 110, 100]
def wFut : List UInt8 := [102, 117, 116, 117, 114, 101]
def wThr : List UInt8 := [116, 104, 114, 101, 97, 100]
def wSite : List UInt8 := [115, 105, 116, 101]
def wEvent : List UInt8 := [101, 118, 101, 110, 116]
def wDeps : List UInt8 := [100, 101, 112, 115]
def wFrom : List UInt8 := [102, 114, 111, 109]
/-- The words of the kinds 1 to 23. -/
def kindsL : List (List UInt8) := [[98, 101, 103, 105, 110], [101, 110, 100], [108, 111, 97, 100], [115, 116, 111, 114, 101], [98, 114, 97, 110, 99, 104], [97, 99, 113, 117, 105, 114, 101], [114, 101, 108, 101, 97, 115, 101], [114, 101, 97, 100, 97, 99, 113, 117, 105, 114, 101], [114, 101, 97, 100, 114, 101, 108, 101, 97, 115, 101], [119, 114, 105, 116, 101, 97, 99, 113, 117, 105, 114, 101], [119, 114, 105, 116, 101, 114, 101, 108, 101, 97, 115, 101], [116, 120, 98, 101, 103, 105, 110], [116, 120, 101, 110, 100], [97, 116, 111, 109, 105, 99, 98, 101, 103, 105, 110], [97, 116, 111, 109, 105, 99, 101, 110, 100], [119, 97, 105, 116], [119, 97, 107, 101], [110, 111, 116, 105, 102, 121], [110, 111, 116, 105, 102, 121, 97, 108, 108], [115, 112, 97, 119, 110], [106, 111, 105, 110], [115, 101, 116], [103, 101, 116]]
/-- The words that are no names. -/
def keysL : List (List UInt8) := [[118, 97, 114], [118, 111, 108, 97, 116, 105, 108, 101], [109, 117, 116, 101, 120], [114, 119, 108, 111, 99, 107], [99, 111, 110, 100], [102, 117, 116, 117, 114, 101], [116, 104, 114, 101, 97, 100], [105, 102], [101, 108, 115, 101], [119, 104, 105, 108, 101], [108, 111, 99, 107], [114, 101, 97, 100], [119, 114, 105, 116, 101], [116, 114, 97, 110, 115, 97, 99, 116, 105, 111, 110], [97, 116, 111, 109, 105, 99], [119, 97, 105, 116], [110, 111, 116, 105, 102, 121], [110, 111, 116, 105, 102, 121, 97, 108, 108], [115, 112, 97, 119, 110], [106, 111, 105, 110], [115, 101, 116], [103, 101, 116]]
def letterB (c : UInt8) : Bool := (97 ≤ c && c ≤ 122) || (65 ≤ c && c ≤ 90)
def innerB (c : UInt8) : Bool := letterB c || (48 ≤ c && c ≤ 57) || c == 95
/-- A name. -/
def nameB (s : List UInt8) : Bool := match s with
  | [] => false
  | c :: r => decide (s.length ≤ 12) && letterB c && !keysL.contains s && r.all innerB
/-- The number of a kind's word. -/
def kindI (s : List UInt8) : Option Nat := (kindsL.findIdx? (· == s)).map (· + 1)
/-- The numbers behind a word; what is left. -/
def listI (word : List UInt8) : List (List UInt8) → Option (List Int × List (List UInt8))
  | [] => some ([], [])
  | h :: t => if h = word then (if t.takeWhile (· ≠ wFrom) = [] then none else ((t.takeWhile (· ≠ wFrom)).mapM canonI).map fun ns => (ns, t.dropWhile (· ≠ wFrom))) else some ([], h :: t)
/-- The two lists of an event. -/
def restI (l : List (List UInt8)) : Option (List Int × List Int) :=
  (listI wDeps l).bind fun p => (listI wFrom p.2).bind fun q => if q.2 = [] then some (p.1, q.1) else none
def eventI : List (List UInt8) → Option Evn
  | a :: k :: o :: v :: s :: rest => match canonI a, kindI k, canonI o, canonI v, canonI s, restI rest with
    | some x, some j, some y, some z, some u, some p => some ⟨x, j, y, z, u, p.1, p.2⟩
    | _, _, _, _, _, _ => none
  | _ => none
/-- The object with a name and numbers. -/
def namedI (h n : List UInt8) (ns : List Int) : Option Item :=
  if h = wCell ∨ h = wVol then (match ns with
    | [x, y, z] => some (.cell ⟨n, x, y, decide (h = wVol), z⟩)
    | _ => none)
  else if h = wMutex ∨ h = wRw then (if ns = [] then some (.lock ⟨n, decide (h = wRw)⟩) else none)
  else if h = wCond then (match ns with
    | [x] => some (.cond ⟨n, x⟩)
    | _ => none)
  else if h = wFut then (if ns = [] then some (.fut n) else none)
  else if h = wThr then (if ns = [] then some (.thr n) else none)
  else none
/-- The object of a line's parts. -/
def itemI (h : List UInt8) (ps : List (List UInt8)) : Option Item :=
  if h = wEvent then (eventI ps).map .event
  else if h = wSite then (match ps.mapM canonI with
    | some [x, y, z] => some (.site ⟨x, y, z⟩)
    | _ => none)
  else match ps with
    | [] => none
    | n :: qs => if nameB n = true then (qs.mapM canonI).bind (namedI h n) else none
def lineI (line : List UInt8) : Option Item := match pieces 32 line with
  | [] => none
  | h :: ps => itemI h ps
theorem lineI_of {line h : List UInt8} {ps : List (List UInt8)} (e : pieces 32 line = h :: ps) : lineI line = itemI h ps := by unfold lineI; rw [e]
/-- How a reading ends. -/
inductive TEnd where
  | ok (t : Trc)
  | bad (line : Nat)
/-- The reading of what is behind line k - 1, with the trace t read, whose last line is of group g. -/
inductive RunT : Trc → Nat → Nat → List UInt8 → TEnd → Prop where
  | done (t : Trc) (g k : Nat) : RunT t g k [] (.ok t)
  | cut {t : Trc} {g k : Nat} {r : List UInt8} : r ≠ [] → (10 : UInt8) ∉ r → RunT t g k r (.bad k)
  | wrong {t : Trc} {g k : Nat} {r a b : List UInt8} : r = a ++ 10 :: b → (10 : UInt8) ∉ a → (∀ i, lineI a = some i → i.group < g) → RunT t g k r (.bad k)
  | next {t : Trc} {g k : Nat} {i : Item} {r a b : List UInt8} {e : TEnd} : r = a ++ 10 :: b → (10 : UInt8) ∉ a → lineI a = some i → ¬ i.group < g → RunT (t.add i) i.group (k + 1) b e → RunT t g k r e
theorem nl_uniqueT {a b a' b' : List UInt8} (h1 : (10 : UInt8) ∉ a) (h2 : (10 : UInt8) ∉ a') (h : a ++ 10 :: b = a' ++ 10 :: b') : a = a' ∧ b = b' := by
  have e := congrArg (fun l => pieces 10 l) h
  simp only [pieces_app b h1, pieces_app b' h2, List.cons.injEq] at e
  have e1 := e.1
  subst e1
  have e2 := List.append_cancel_left h
  injection e2 with _ e2
  exact ⟨rfl, e2⟩
theorem RunT.fn {t : Trc} {g k : Nat} {r : List UInt8} {e e' : TEnd} (h : RunT t g k r e) (h' : RunT t g k r e') : e = e' := by
  induction h with
  | done t g k =>
    cases h' with
    | done => rfl
    | cut h1 _ => exact absurd rfl h1
    | wrong h1 _ _ => simp at h1
    | next h1 _ _ _ _ => simp at h1
  | cut h1 h2 =>
    cases h' with
    | done => exact absurd rfl h1
    | cut _ _ => rfl
    | wrong h3 _ _ => exact absurd (by rw [h3]; simp) h2
    | next h3 _ _ _ _ => exact absurd (by rw [h3]; simp) h2
  | wrong h1 h2 h3 =>
    cases h' with
    | done => simp at h1
    | cut _ h4 => exact absurd (by rw [h1]; simp) h4
    | wrong _ _ _ => rfl
    | next h4 h5 h6 h7 _ =>
      obtain ⟨rfl, rfl⟩ := nl_uniqueT h2 h5 (h1.symm.trans h4)
      exact absurd (h3 _ h6) h7
  | next h1 h2 h3 hg _ ih =>
    cases h' with
    | done => simp at h1
    | cut _ h4 => exact absurd (by rw [h1]; simp) h4
    | wrong h4 h5 h6 =>
      obtain ⟨rfl, rfl⟩ := nl_uniqueT h2 h5 (h1.symm.trans h4)
      exact absurd (h6 _ h3) hg
    | next h4 h5 h6 h7 h8 =>
      obtain ⟨rfl, rfl⟩ := nl_uniqueT h2 h5 (h1.symm.trans h4)
      rw [h3] at h6
      injection h6 with h6
      subst h6
      exact ih h8
end Go.Proofs.YtmnjmegejaejlaaDoor
