/-
  PLAIN LAW: the text of a trace; it is read as that trace.
-/
import Derived.Test.YtmnjmegejaejlaaDoorTT16
import Derived.Test.YtmnjmegejaejlaaDoorTT31
namespace Go.Proofs.YtmnjmegejaejlaaDoor

/-- The word of a kind from 1 to 23. -/
def kindW (k : Int) : List UInt8 := (([] :: kindsL)[k.toNat]?).getD []
/-- A word and numbers behind it, if there are any. -/
def numsP (word : List UInt8) (l : List Int) : List (List UInt8) := if l = [] then [] else word :: l.map Lib.itoa
def Item.head : Item → List UInt8
  | .cell c => if c.vol then wVol else wCell
  | .lock l => if l.rw then wRw else wMutex
  | .cond _ => wCond
  | .fut _ => wFut
  | .thr _ => wThr
  | .site _ => wSite
  | .event _ => wEvent
def Item.args : Item → List (List UInt8)
  | .cell c => [c.name, Lib.itoa c.index, Lib.itoa c.size, Lib.itoa c.init]
  | .lock l => [l.name]
  | .cond c => [c.name, Lib.itoa c.mutex]
  | .fut n => [n]
  | .thr n => [n]
  | .site s => [Lib.itoa s.thread, Lib.itoa s.stmt, Lib.itoa s.line]
  | .event e => [Lib.itoa e.thread, kindW e.kind, Lib.itoa e.obj, Lib.itoa e.value, Lib.itoa e.site] ++ (numsP wDeps e.deps ++ numsP wFrom e.frm)
/-- Parts, each behind a blank. -/
def tailS (r : List (List UInt8)) : List UInt8 := r.flatMap (32 :: ·)
def lineT (it : Item) : List UInt8 := it.head ++ tailS it.args ++ [10]
def Trc.items (t : Trc) : List Item := t.cells.map .cell ++ (t.locks.map .lock ++ (t.conds.map .cond ++ (t.futs.map .fut ++ (t.thrs.map .thr ++ (t.sites.map .site ++ t.events.map .event)))))
/-- The text of a trace. -/
def textT (t : Trc) : List UInt8 := t.items.flatMap lineT
/-- What can be printed. -/
def Item.prt : Item → Prop
  | .cell c => nameB c.name = true
  | .lock l => nameB l.name = true
  | .cond c => nameB c.name = true
  | .fut n => nameB n = true
  | .thr n => nameB n = true
  | .site _ => True
  | .event e => (1 ≤ e.kind ∧ e.kind ≤ 23) ∧ (∀ x ∈ e.deps, I64 x) ∧ ∀ x ∈ e.frm, I64 x
theorem tailS_cons (p : List UInt8) (r : List (List UInt8)) : tailS (p :: r) = 32 :: p ++ tailS r := by simp [tailS]
theorem tailS_append (a b : List (List UInt8)) : tailS (a ++ b) = tailS a ++ tailS b := by simp [tailS]
theorem join_tail (p : List UInt8) (r : List (List UInt8)) : Lib.join (p :: r) [32] = p ++ tailS r := by
  rw [Lib.join_cons]
  congr 1
theorem pieces_parts (r : List (List UInt8)) : ∀ h : List UInt8, (32 : UInt8) ∉ h → (∀ p ∈ r, (32 : UInt8) ∉ p) → pieces 32 (h ++ tailS r) = h :: r := by
  induction r with
  | nil => intro h hh _; simp [tailS, pieces_none hh]
  | cons x r ih =>
    intro h hh hr
    rw [tailS_cons, List.cons_append, pieces_app _ hh, ih x (hr x (by simp)) (fun p hp => hr p (by simp [hp]))]
theorem inner_not {c : UInt8} (h : innerB c = true) : c ≠ 32 ∧ c ≠ 10 := by
  constructor <;> (rintro rfl; revert h; decide)
theorem name_not {n : List UInt8} (h : nameB n = true) : (32 : UInt8) ∉ n ∧ (10 : UInt8) ∉ n := by
  unfold nameB at h
  cases n with
  | nil => simp
  | cons c r =>
    simp only [Bool.and_eq_true, decide_eq_true_eq] at h
    obtain ⟨⟨⟨h1, h2⟩, h3⟩, h4⟩ := h
    have hc : innerB c = true := by unfold innerB; rw [h2]; rfl
    rw [List.all_eq_true] at h4
    have key : ∀ x ∈ c :: r, x ≠ 32 ∧ x ≠ 10 := fun x hx => by
      rcases List.mem_cons.1 hx with rfl | hx
      · exact inner_not hc
      · exact inner_not (h4 x hx)
    exact ⟨fun hm => (key 32 hm).1 rfl, fun hm => (key 10 hm).2 rfl⟩
theorem kind_all {k : Int} (h : 1 ≤ k ∧ k ≤ 23) : kindI (kindW k) = some k.toNat ∧ (32 : UInt8) ∉ kindW k ∧ (10 : UInt8) ∉ kindW k ∧ kindW k ∈ kindsL := by
  have hk : ∃ j : Nat, k = (j : Int) + 1 ∧ j < 23 := ⟨(k - 1).toNat, by omega, by omega⟩
  obtain ⟨j, rfl, hj⟩ := hk
  have key : ∀ j : Fin 23, kindI (kindW ((j.val : Int) + 1)) = some ((j.val : Int) + 1).toNat ∧ (32 : UInt8) ∉ kindW ((j.val : Int) + 1) ∧ (10 : UInt8) ∉ kindW ((j.val : Int) + 1) ∧ kindW ((j.val : Int) + 1) ∈ kindsL := by decide +kernel
  exact key ⟨j, hj⟩
theorem itoa_blank (v : Int) : (32 : UInt8) ∉ Lib.itoa v ∧ (10 : UInt8) ∉ Lib.itoa v := ⟨itoa_not v (by decide), itoa_not v (by decide)⟩
theorem numsP_not {word : List UInt8} {l : List Int} (h : (32 : UInt8) ∉ word ∧ (10 : UInt8) ∉ word) : ∀ p ∈ numsP word l, (32 : UInt8) ∉ p ∧ (10 : UInt8) ∉ p := by
  intro p hp
  unfold numsP at hp
  split at hp
  · cases hp
  · rcases List.mem_cons.1 hp with rfl | hp
    · exact h
    · obtain ⟨x, _, rfl⟩ := List.mem_map.1 hp
      exact itoa_blank x
theorem parts_not (it : Item) (h : it.prt) : ((32 : UInt8) ∉ it.head ∧ (10 : UInt8) ∉ it.head) ∧ ∀ p ∈ it.args, (32 : UInt8) ∉ p ∧ (10 : UInt8) ∉ p := by
  cases it with
  | cell c =>
    refine ⟨?_, fun p hp => ?_⟩
    · show (32 : UInt8) ∉ (if c.vol then wVol else wCell) ∧ (10 : UInt8) ∉ (if c.vol then wVol else wCell)
      split <;> exact ⟨by decide, by decide⟩
    · simp only [Item.args, List.mem_cons, List.not_mem_nil, or_false] at hp
      rcases hp with rfl | rfl | rfl | rfl
      · exact name_not h
      all_goals exact itoa_blank _
  | lock c =>
    refine ⟨?_, fun p hp => ?_⟩
    · show (32 : UInt8) ∉ (if c.rw then wRw else wMutex) ∧ (10 : UInt8) ∉ (if c.rw then wRw else wMutex)
      split <;> exact ⟨by decide, by decide⟩
    · simp only [Item.args, List.mem_cons, List.not_mem_nil, or_false] at hp
      subst hp; exact name_not h
  | cond c =>
    refine ⟨⟨by simp [Item.head, wCond], by simp [Item.head, wCond]⟩, fun p hp => ?_⟩
    simp only [Item.args, List.mem_cons, List.not_mem_nil, or_false] at hp
    rcases hp with rfl | rfl
    · exact name_not h
    · exact itoa_blank _
  | fut n =>
    refine ⟨⟨by simp [Item.head, wFut], by simp [Item.head, wFut]⟩, fun p hp => ?_⟩
    simp only [Item.args, List.mem_cons, List.not_mem_nil, or_false] at hp
    subst hp; exact name_not h
  | thr n =>
    refine ⟨⟨by simp [Item.head, wThr], by simp [Item.head, wThr]⟩, fun p hp => ?_⟩
    simp only [Item.args, List.mem_cons, List.not_mem_nil, or_false] at hp
    subst hp; exact name_not h
  | site s =>
    refine ⟨⟨by simp [Item.head, wSite], by simp [Item.head, wSite]⟩, fun p hp => ?_⟩
    simp only [Item.args, List.mem_cons, List.not_mem_nil, or_false] at hp
    rcases hp with rfl | rfl | rfl <;> exact itoa_blank _
  | event e =>
    refine ⟨⟨by simp [Item.head, wEvent], by simp [Item.head, wEvent]⟩, fun p hp => ?_⟩
    simp only [Item.args, List.mem_append, List.mem_cons, List.not_mem_nil, or_false] at hp
    rcases hp with (rfl | rfl | rfl | rfl | rfl) | hp | hp
    · exact itoa_blank _
    · exact ⟨(kind_all h.1).2.1, (kind_all h.1).2.2.1⟩
    · exact itoa_blank _
    · exact itoa_blank _
    · exact itoa_blank _
    · exact numsP_not ⟨by simp [wDeps], by simp [wDeps]⟩ p hp
    · exact numsP_not ⟨by simp [wFrom], by simp [wFrom]⟩ p hp
theorem itoa_ne_from (x : Int) : Lib.itoa x ≠ wFrom := by
  intro h
  have h1 : ∀ c ∈ Lib.itoa x, c.toNat ≤ 57 := by
    intro c hc
    unfold Lib.itoa at hc
    split at hc
    · rcases List.mem_cons.1 hc with rfl | hc
      · decide
      · exact (digits_all _ c hc).2
    · exact (digits_all _ c hc).2
  rw [h] at h1
  have := h1 102 (by simp [wFrom])
  revert this; decide
theorem takeW (l : List Int) (r : List (List UInt8)) (hr : r = [] ∨ ∃ q, r = wFrom :: q) : (l.map Lib.itoa ++ r).takeWhile (· ≠ wFrom) = l.map Lib.itoa ∧ (l.map Lib.itoa ++ r).dropWhile (· ≠ wFrom) = r := by
  induction l with
  | nil =>
    rcases hr with rfl | ⟨q, rfl⟩
    · exact ⟨rfl, rfl⟩
    · exact ⟨by simp, by simp⟩
  | cons x l ih =>
    have hx := itoa_ne_from x
    simp only [List.map_cons, List.cons_append]
    refine ⟨?_, ?_⟩
    · rw [List.takeWhile_cons_of_pos (by simpa using hx), ih.1]
    · rw [List.dropWhile_cons_of_pos (by simpa using hx), ih.2]
theorem numsP_from (l : List Int) : numsP wFrom l = [] ∨ ∃ q, numsP wFrom l = wFrom :: q := by
  unfold numsP
  split
  · exact .inl rfl
  · exact .inr ⟨_, rfl⟩
theorem listI_nums {word : List UInt8} {l : List Int} {r : List (List UInt8)} (hl : l ≠ []) (hi : ∀ x ∈ l, I64 x) (hr : r = [] ∨ ∃ q, r = wFrom :: q) : listI word (word :: (l.map Lib.itoa ++ r)) = some (l, r) := by
  obtain ⟨t1, t2⟩ := takeW l r hr
  show (if word = word then (if (l.map Lib.itoa ++ r).takeWhile (· ≠ wFrom) = [] then none else (((l.map Lib.itoa ++ r).takeWhile (· ≠ wFrom)).mapM canonI).map fun ns => (ns, (l.map Lib.itoa ++ r).dropWhile (· ≠ wFrom))) else _) = _
  rw [if_pos rfl, t1, t2, if_neg (by simp [hl]), mapM_itoa l hi]
  rfl
theorem restI_text (d f : List Int) (hd : ∀ x ∈ d, I64 x) (hf : ∀ x ∈ f, I64 x) : restI (numsP wDeps d ++ numsP wFrom f) = some (d, f) := by
  have e1 : listI wDeps (numsP wDeps d ++ numsP wFrom f) = some (d, numsP wFrom f) := by
    by_cases h : d = []
    · subst h
      rcases numsP_from f with e | ⟨q, e⟩
      · rw [e]; rfl
      · rw [e, show numsP wDeps [] ++ wFrom :: q = wFrom :: q from rfl]
        unfold listI
        simp only
        rw [if_neg (by decide)]
    · rw [show numsP wDeps d = wDeps :: d.map Lib.itoa by unfold numsP; rw [if_neg h], List.cons_append]
      exact listI_nums h hd (numsP_from f)
  have e2 : listI wFrom (numsP wFrom f) = some (f, []) := by
    by_cases h : f = []
    · subst h; rfl
    · rw [show numsP wFrom f = wFrom :: (f.map Lib.itoa ++ []) by unfold numsP; rw [if_neg h, List.append_nil]]
      exact listI_nums h hf (.inl rfl)
  unfold restI
  rw [e1]
  simp only [Option.bind_some]
  rw [e2]
  simp
theorem itemI_text (it : Item) (h : it.ok) (hp : it.prt) : itemI it.head it.args = some it := by
  cases it with
  | cell c =>
    obtain ⟨h1, h2, h3⟩ := h
    have hm : ([Lib.itoa c.index, Lib.itoa c.size, Lib.itoa c.init] : List (List UInt8)).mapM canonI = some [c.index, c.size, c.init] := mapM_itoa [c.index, c.size, c.init] (by simp [h1, h2, h3])
    have hn : nameB c.name = true := hp
    have key : ∀ w : List UInt8, w ≠ wEvent → w ≠ wSite → itemI w (Item.args (.cell c)) = namedI w c.name [c.index, c.size, c.init] := fun w a b => by
      unfold itemI Item.args
      rw [if_neg a, if_neg b]
      simp only [hn, if_true]
      rw [hm]; rfl
    obtain ⟨nm, ix, sz, vol, ini⟩ := c
    cases vol
    · exact (key wCell (by decide) (by decide)).trans rfl
    · exact (key wVol (by decide) (by decide)).trans rfl
  | lock c =>
    have hn : nameB c.name = true := hp
    have key : ∀ w : List UInt8, w ≠ wEvent → w ≠ wSite → itemI w (Item.args (.lock c)) = namedI w c.name [] := fun w a b => by
      unfold itemI Item.args
      rw [if_neg a, if_neg b]
      simp only [hn, if_true]
      rfl
    obtain ⟨nm, rw⟩ := c
    cases rw
    · exact (key wMutex (by decide) (by decide)).trans rfl
    · exact (key wRw (by decide) (by decide)).trans rfl
  | cond c =>
    have hn : nameB c.name = true := hp
    have hm : ([Lib.itoa c.mutex] : List (List UInt8)).mapM canonI = some [c.mutex] := mapM_itoa [c.mutex] (by intro x hx; rw [List.mem_singleton] at hx; subst hx; exact h)
    show itemI wCond [c.name, Lib.itoa c.mutex] = _
    unfold itemI
    rw [if_neg (by decide), if_neg (by decide)]
    simp only [hn, if_true]
    rw [hm]; rfl
  | fut n =>
    have hn : nameB n = true := hp
    show itemI wFut [n] = _
    unfold itemI
    rw [if_neg (by decide), if_neg (by decide)]
    simp only [hn, if_true]
    rfl
  | thr n =>
    have hn : nameB n = true := hp
    show itemI wThr [n] = _
    unfold itemI
    rw [if_neg (by decide), if_neg (by decide)]
    simp only [hn, if_true]
    rfl
  | site s =>
    obtain ⟨h1, h2, h3⟩ := h
    have hm : ([Lib.itoa s.thread, Lib.itoa s.stmt, Lib.itoa s.line] : List (List UInt8)).mapM canonI = some [s.thread, s.stmt, s.line] := mapM_itoa [s.thread, s.stmt, s.line] (by simp [h1, h2, h3])
    show itemI wSite [Lib.itoa s.thread, Lib.itoa s.stmt, Lib.itoa s.line] = _
    unfold itemI
    rw [if_neg (by decide), if_pos rfl, hm]
  | event e =>
    obtain ⟨h1, h2, h3, h4, h5⟩ := h
    obtain ⟨hk, hd, hf⟩ := hp
    have hkk := (kind_all hk).1
    have hev : eventI ([Lib.itoa e.thread, kindW e.kind, Lib.itoa e.obj, Lib.itoa e.value, Lib.itoa e.site] ++ (numsP wDeps e.deps ++ numsP wFrom e.frm)) = some e := by
      show eventI (Lib.itoa e.thread :: kindW e.kind :: Lib.itoa e.obj :: Lib.itoa e.value :: Lib.itoa e.site :: (numsP wDeps e.deps ++ numsP wFrom e.frm)) = some e
      rw [eventI_cons, canonI_itoa _ h1.1 (by have := h1.2; omega), canonI_itoa _ h3.1 (by have := h3.2; omega), canonI_itoa _ h4.1 (by have := h4.2; omega), canonI_itoa _ h5.1 (by have := h5.2; omega), hkk, restI_text _ _ hd hf]
      simp only [Option.some.injEq]
      have : ((e.kind.toNat : Nat) : Int) = e.kind := by omega
      rw [this]
    show itemI wEvent ([Lib.itoa e.thread, kindW e.kind, Lib.itoa e.obj, Lib.itoa e.value, Lib.itoa e.site] ++ (numsP wDeps e.deps ++ numsP wFrom e.frm)) = _
    unfold itemI
    rw [if_pos rfl, hev]
    rfl
theorem lineI_text (it : Item) (h : it.ok) (hp : it.prt) : lineI (it.head ++ tailS it.args) = some it := by
  obtain ⟨⟨n1, _⟩, n2⟩ := parts_not it hp
  rw [lineI_of (pieces_parts it.args it.head n1 (fun p hp => (n2 p hp).1)), itemI_text it h hp]
theorem lineT_not (it : Item) (hp : it.prt) : (10 : UInt8) ∉ it.head ++ tailS it.args := by
  obtain ⟨⟨_, n1⟩, n2⟩ := parts_not it hp
  intro hm
  rcases List.mem_append.1 hm with hm | hm
  · exact n1 hm
  · unfold tailS at hm
    rw [List.mem_flatMap] at hm
    obtain ⟨p, hp, hm⟩ := hm
    rcases List.mem_cons.1 hm with hm | hm
    · revert hm; decide
    · exact (n2 p hp).2 hm
/-- The lines of ascending objects are read as these objects. -/
theorem run_items (its : List Item) : ∀ (t : Trc) (g k : Nat), (∀ it ∈ its, it.ok ∧ it.prt) → its.Pairwise (fun a b => a.group ≤ b.group) → (∀ it ∈ its, g ≤ it.group) → RunT t g k (its.flatMap lineT) (.ok (its.foldl Trc.add t)) := by
  induction its with
  | nil => intro t g k _ _ _; exact .done _ _ _
  | cons it r ih =>
    intro t g k h hs hg
    rw [List.pairwise_cons] at hs
    obtain ⟨h1, h2⟩ := h it (by simp)
    refine .next (i := it) (a := it.head ++ tailS it.args) (b := r.flatMap lineT) (by simp [lineT]) (lineT_not it h2) (lineI_text it h1 h2) (by have := hg it (by simp); omega) ?_
    exact ih (t.add it) it.group (k + 1) (fun x hx => h x (by simp [hx])) hs.2 (fun x hx => hs.1 x hx)
theorem fold_items (t : Trc) : t.items.foldl Trc.add trc0 = t := by
  have c1 : ∀ (l : List Cel) (u : Trc), (l.map Item.cell).foldl Trc.add u = { u with cells := u.cells ++ l } := fun l => by
    induction l with
    | nil => intro u; simp
    | cons x r ih => intro u; rw [List.map_cons, List.foldl_cons, ih]; simp [Trc.add]
  have c2 : ∀ (l : List Lck) (u : Trc), (l.map Item.lock).foldl Trc.add u = { u with locks := u.locks ++ l } := fun l => by
    induction l with
    | nil => intro u; simp
    | cons x r ih => intro u; rw [List.map_cons, List.foldl_cons, ih]; simp [Trc.add]
  have c3 : ∀ (l : List Cnd) (u : Trc), (l.map Item.cond).foldl Trc.add u = { u with conds := u.conds ++ l } := fun l => by
    induction l with
    | nil => intro u; simp
    | cons x r ih => intro u; rw [List.map_cons, List.foldl_cons, ih]; simp [Trc.add]
  have c4 : ∀ (l : List (List UInt8)) (u : Trc), (l.map Item.fut).foldl Trc.add u = { u with futs := u.futs ++ l } := fun l => by
    induction l with
    | nil => intro u; simp
    | cons x r ih => intro u; rw [List.map_cons, List.foldl_cons, ih]; simp [Trc.add]
  have c5 : ∀ (l : List (List UInt8)) (u : Trc), (l.map Item.thr).foldl Trc.add u = { u with thrs := u.thrs ++ l } := fun l => by
    induction l with
    | nil => intro u; simp
    | cons x r ih => intro u; rw [List.map_cons, List.foldl_cons, ih]; simp [Trc.add]
  have c6 : ∀ (l : List Sit) (u : Trc), (l.map Item.site).foldl Trc.add u = { u with sites := u.sites ++ l } := fun l => by
    induction l with
    | nil => intro u; simp
    | cons x r ih => intro u; rw [List.map_cons, List.foldl_cons, ih]; simp [Trc.add]
  have c7 : ∀ (l : List Evn) (u : Trc), (l.map Item.event).foldl Trc.add u = { u with events := u.events ++ l } := fun l => by
    induction l with
    | nil => intro u; simp
    | cons x r ih => intro u; rw [List.map_cons, List.foldl_cons, ih]; simp [Trc.add]
  unfold Trc.items
  simp only [List.foldl_append, c1, c2, c3, c4, c5, c6, c7]
  simp [trc0]
theorem items_sorted (t : Trc) : t.items.Pairwise (fun a b => a.group ≤ b.group) := by
  have same : ∀ {α : Type} (f : α → Item) (n : Nat) (_ : ∀ a, (f a).group = n) (l : List α), (l.map f).Pairwise (fun a b => a.group ≤ b.group) := fun f n hf l => by
    rw [List.pairwise_map]
    exact List.Pairwise.imp (fun _ => by rw [hf, hf]; omega) (List.pairwise_of_forall (R := fun _ _ => True) (fun _ _ => trivial))
  have up : ∀ {α : Type} (f : α → Item) (n : Nat) (_ : ∀ a, (f a).group = n) (l : List α) (r : List Item), r.Pairwise (fun a b => a.group ≤ b.group) → (∀ x ∈ r, n ≤ x.group) → (l.map f ++ r).Pairwise (fun a b => a.group ≤ b.group) := fun f n hf l r h1 h2 => by
    rw [List.pairwise_append]
    refine ⟨same f n hf l, h1, fun a ha b hb => ?_⟩
    obtain ⟨x, _, rfl⟩ := List.mem_map.1 ha
    rw [hf]; exact h2 b hb
  have lo : ∀ {α : Type} (f : α → Item) (n m : Nat) (_ : ∀ a, (f a).group = m) (_ : n ≤ m) (l : List α) (r : List Item), (∀ x ∈ r, n ≤ x.group) → ∀ x ∈ l.map f ++ r, n ≤ x.group := fun f n m hf hnm l r h x hx => by
    rcases List.mem_append.1 hx with hx | hx
    · obtain ⟨y, _, rfl⟩ := List.mem_map.1 hx
      rw [hf]; exact hnm
    · exact h x hx
  have s7 := same Item.event 7 (fun _ => rfl) t.events
  have l7 : ∀ n, n ≤ 7 → ∀ x ∈ t.events.map Item.event, n ≤ x.group := fun n hn x hx => by
    obtain ⟨y, _, rfl⟩ := List.mem_map.1 hx; exact hn
  have s6 := up Item.site 6 (fun _ => rfl) t.sites _ s7 (l7 6 (by omega))
  have l6 : ∀ n, n ≤ 6 → _ := fun n hn => lo Item.site n 6 (fun _ => rfl) hn t.sites _ (l7 n (by omega))
  have s5 := up Item.thr 5 (fun _ => rfl) t.thrs _ s6 (l6 5 (by omega))
  have l5 : ∀ n, n ≤ 5 → _ := fun n hn => lo Item.thr n 5 (fun _ => rfl) hn t.thrs _ (l6 n (by omega))
  have s4 := up Item.fut 4 (fun _ => rfl) t.futs _ s5 (l5 4 (by omega))
  have l4 : ∀ n, n ≤ 4 → _ := fun n hn => lo Item.fut n 4 (fun _ => rfl) hn t.futs _ (l5 n (by omega))
  have s3 := up Item.cond 3 (fun _ => rfl) t.conds _ s4 (l4 3 (by omega))
  have l3 : ∀ n, n ≤ 3 → _ := fun n hn => lo Item.cond n 3 (fun _ => rfl) hn t.conds _ (l4 n (by omega))
  have s2 := up Item.lock 2 (fun _ => rfl) t.locks _ s3 (l3 2 (by omega))
  have l2 : ∀ n, n ≤ 2 → _ := fun n hn => lo Item.lock n 2 (fun _ => rfl) hn t.locks _ (l3 n (by omega))
  exact up Item.cell 1 (fun _ => rfl) t.cells _ s2 (l2 1 (by omega))
/-- THE TEXT OF A TRACE IS READ AS THAT TRACE. -/
theorem textT_run (t : Trc) (h : ∀ it ∈ t.items, it.ok ∧ it.prt) : RunT trc0 0 1 (textT t) (.ok t) := by
  have := run_items t.items trc0 0 1 h (items_sorted t) (fun _ _ => Nat.zero_le _)
  rwa [fold_items] at this
/-- One line's place in the whole. -/
theorem take_fits {α : Type} {l : List α} {g : α → List UInt8} {k : Nat} {x : α} (h : l[k]? = some x) : ((l.take k).flatMap g).length + (g x).length ≤ (l.flatMap g).length := by
  have e : l.flatMap g = (l.take (k + 1)).flatMap g ++ (l.drop (k + 1)).flatMap g := by rw [← List.flatMap_append, List.take_append_drop]
  rw [e, flatMap_take_succ h]
  simp
end Go.Proofs.YtmnjmegejaejlaaDoor
