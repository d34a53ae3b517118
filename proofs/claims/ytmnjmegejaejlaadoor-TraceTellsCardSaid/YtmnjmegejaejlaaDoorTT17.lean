/-
  WORDS: what trace.readLine answers; its beginning.
-/
import Derived.Test.YtmnjmegejaejlaaDoorTT16
import Derived.Deep.RegionHeld3
import Derived.Deep.Cut
import Derived.Deep.RegionLaw
namespace Go.Proofs.YtmnjmegejaejlaaDoor
open Go.RowKit

/-- What the reading of a line answers. -/
def LineRet (w : World) (base b : Nat) (t : Trc) (o : Option Item) (e : Ending) (w' : World) : Prop :=
  ∃ (g : Int) (okb : Bool), e = .returned (.tuple #[.int .i64 g, .bool okb]) ∧ Below b w w' ∧ (∀ it, o = some it → okb = true ∧ g = (it.group : Int) - 1 ∧ ∃ v' ds', TrS w' base b v' (t.add it) ds') ∧ (o = none → okb = false)
/-- The reader of a line's parts is new. -/
theorem rdr_new {w : World} {ab off n c : Nat} {dp : Option Addr} {h : List UInt8} {ps : List (List UInt8)} (hn : n = ps.length + 1) (hc : n ≤ c) (hm : c ≤ maxLen) (hb : ab < w.heap.size) (hcell : ∀ j s, (h :: ps)[j]? = some s → w.cell? ⟨ab, off + j, none⟩ = some (.string ⟨s.toArray⟩))
    (hd : 1 < n → dp = (some ⟨ab, off, none⟩ : Option Addr).map fun a => a.add 1) : RdrT (w.alloc (.cells #[.slice dp (n - 1) (c - 1), .bool true] 77)) w.heap.size ps true := by
  refine ⟨_, Blk.new _ _ _, dp, c - 1, by rw [hn]; rfl, by omega, by omega, fun h0 => ?_⟩
  have e := hd (by omega)
  refine ⟨ab, off + 1, by rw [e]; simp [Addr.add], hb, by simp; omega, fun j s hj => ?_⟩
  have hx := hcell (j + 1) s (by simpa using hj)
  rw [show off + 1 + j = off + (j + 1) by omega]
  have hbl : Below w.heap.size w (w.alloc (.cells #[.slice dp (n - 1) (c - 1), .bool true] 77)) := (Below.refl _ _).alloc (Nat.le_refl _) _
  exact (hbl.cell (p := ⟨ab, off + (j + 1), none⟩) hb).trans hx
theorem step_app_own {P : Program} {ops : Array Oper} {o : Oper} {a : Act} {w : World} {K : Act → World → Prop} {Q : Exit → Act → World → Prop} {E : Prop} (hgd : o.guard = none) (s x : Operand) (t : TypeId)
    (ho : o.op = .call { callee := .builtin .append, args := #[s, x], argTypes := #[t, t] })
    (base : Nat) (e : TypeId) (i : TypeInfo) (z : Value) (size bytes : Nat) (ht : P.underlying t = some (.slice e)) (hi : P.info? e = some i) (hz : i.zero = some z)
    (hsize : i.size = size) (hby : i.bytes = bytes) (hzs : z.cells.size = size) (hsz : 0 < size)
    (v : Value) (n : Nat) (xs : List Value) (hs : a.eval s = v) (hown : w.ownsRow base e size v n xs)
    (ad : Addr) (m c : Nat) (news : List Value) (hx : a.eval x = .slice (some ad) m c) (hl : news.length = m * size) (hnews : ∀ j u, news[j]? = some u → w.cell? (ad.add j) = some u) (h1 : ∀ u ∈ news, u.oneCell' = true)
    (h63 : n + m ≤ maxLen) (hbytes : (n + m) * bytes ≤ 140737488355328) (hbase : base ≤ w.heap.size)
    (h : ∀ v' w', w'.ownsRow base e size v' (n + m) (xs ++ news) → w.grownBy w' v.ownBlock → (v'.ownBlock = v.ownBlock ∨ v'.ownBlock = some w.heap.size) → K (a.put o.dst v') w') :
    if Region.wanted o (yielded ops a.tmps) = true then Oper.wp P o a w K Q else E := by
  have hw : Region.wanted o (yielded ops a.tmps) = true := by simp [Region.wanted, hgd]
  rw [if_pos hw]
  obtain ⟨v', w', hr, h2, h3, _, h5⟩ := run_append_own_at (P := P) w base t o.type e i z size bytes ht hi hz hsize hby hzs hsz v n xs hown ad m c news hl hnews h1 h63 hbytes hbase
  unfold Oper.wp execOp
  simp only [ho, resolve, invoke, builtin, Sem.run_bind, Sem.run_pure, Result.andThen_ok, List.map_toArray, List.map_cons, List.map_nil, hs, hx, hr]
  exact h v' w' h2 h3 h5

theorem line_end {w w' : World} {base b : Nat} {t : Trc} {o : Option Item} {it : Item} {g : Int} {okb : Bool} {v' : Nat → Value} {ds' : List (Value × Value)} (h1 : okb = true → o = some it) (h2 : okb = false → o = none) (hg : g = (it.group : Int) - 1) (hb : Below b w w') (hT : TrS w' base b v' (t.add it) ds') :
    LineRet w base b t o (.returned (.tuple #[.int .i64 g, .bool okb])) w' := by
  refine ⟨g, okb, rfl, hb, fun it' h => ?_, fun h => ?_⟩
  · cases hk : okb with
    | true =>
      have e := h1 hk
      rw [h] at e
      injection e with e
      subst e
      exact ⟨rfl, hg, v', ds', hT⟩
    | false => rw [h2 hk] at h; cases h
  · cases hk : okb with
    | true => rw [h1 hk] at h; cases h
    | false => rfl
theorem nat_of_list {α : Type} (l : List α) : (l = [] ∧ ((l.length : Int) == 0) = true) ∨ (l ≠ [] ∧ ((l.length : Int) == 0) = false) := by
  cases l with
  | nil => exact .inl ⟨rfl, rfl⟩
  | cons a r => exact .inr ⟨by simp, by rw [beq_eq_false_iff_ne]; simp; omega⟩
theorem canonI_nil : canonI [] = none := by decide
theorem isSome_val {o : Option Int} {x : Int} (h : ∀ a, o = some a → x = a) (hs : o.isSome = true) : o = some x := by
  obtain ⟨a, e⟩ := Option.isSome_iff_exists.1 hs
  rw [h a e]; exact e
theorem mapM3 {l : List (List UInt8)} {x y z : Int} (h0 : ∀ a, canonI (l.headD []) = some a → x = a) (h1 : ∀ a, canonI (l.tail.headD []) = some a → y = a) (h2 : ∀ a, canonI (l.tail.tail.headD []) = some a → z = a) :
    ((((canonI (l.headD [])).isSome && (canonI (l.tail.headD [])).isSome) && (canonI (l.tail.tail.headD [])).isSome) = true ∧ l.tail.tail.tail = [] ↔ l.mapM canonI = some [x, y, z]) ∧ ((∃ a b c, l.mapM canonI = some [a, b, c]) → l.mapM canonI = some [x, y, z]) := by
  rcases l with _ | ⟨a, _ | ⟨b, _ | ⟨c, _ | ⟨d, r⟩⟩⟩⟩
  · simp [canonI_nil]
  · cases e : canonI a <;> simp [canonI_nil, e]
  · cases e : canonI a <;> cases e2 : canonI b <;> simp [canonI_nil, e, e2]
  · simp only [List.headD_cons, List.tail_cons] at h0 h1 h2 ⊢
    cases e : canonI a with
    | none => simp [e]
    | some a' =>
      cases e2 : canonI b with
      | none => simp [e, e2]
      | some b' =>
        cases e3 : canonI c with
        | none => simp [e, e2, e3]
        | some c' =>
          obtain rfl := h0 _ e
          obtain rfl := h1 _ e2
          obtain rfl := h2 _ e3
          simp [e, e2, e3]
  · simp only [List.headD_cons, List.tail_cons] at h0 h1 h2 ⊢
    have hl : ∀ ns, (a :: b :: c :: d :: r).mapM canonI = some ns → 4 ≤ ns.length := fun ns h => by have := mapM_len h; simp at this; omega
    refine ⟨⟨fun h => absurd h.2 (by simp), fun h => by have := hl _ h; simp at this⟩, fun ⟨p, q, s, h⟩ => by have := hl _ h; simp at this⟩
theorem step_call_ret {P : Program} {ops : Array Oper} {o : Oper} {a : Act} {w : World} {K : Act → World → Prop} {Q : Exit → Act → World → Prop} {E : Prop} (hgd : o.guard = none) (f : FuncId) (xs : Array Operand) (ats : Array TypeId)
    (ho : o.op = .call { callee := .value (.func f), args := xs, argTypes := ats }) (fn : Func) (hf : P.funcs[f]? = some fn) (hname : (fn.name == "runtime.NumGoroutine") = false) (hb : fn.body.isNone = false)
    (vals : Array Value) (hx : xs.map a.eval = vals) {R : Ending → World → Prop} (hc : Calls P f vals w R) (hr : ∀ e w', R e w' → ∃ v, e = .returned v) (h : ∀ v w', R (.returned v) w' → K (a.put o.dst v) w') :
    if Region.wanted o (yielded ops a.tmps) = true then Oper.wp P o a w K Q else E := by
  have hw : Region.wanted o (yielded ops a.tmps) = true := by simp [Region.wanted, hgd]
  rw [if_pos hw]
  obtain ⟨dst, op, ty, pos, af, gd⟩ := o
  simp only at ho
  subst ho
  have he : (execOp a.eval { dst, op := .call { callee := .value (.func f), args := xs, argTypes := ats }, type := ty, pos, after := af, guard := gd }).run P w = .ok (.enter f vals) w := by
    have e1 : execOp a.eval { dst, op := .call { callee := .value (.func f), args := xs, argTypes := ats }, type := ty, pos, after := af, guard := gd } = callFunc f (#[] ++ xs.map a.eval ++ #[]) := rfl
    rw [e1, hx]
    have n1 : ¬ fn.name = "runtime.NumGoroutine" := by simpa using hname
    have n2 : ¬ fn.body = none := by intro e; rw [e] at hb; simp at hb
    simp [callFunc, go_sem, hf]
    rw [if_neg n1, if_neg n2]
  unfold Oper.wp
  rw [he]
  rw [Oper.upon_enter]
  refine hc.mono fun e w' hR => ?_
  obtain ⟨v, rfl⟩ := hr e w' hR
  exact h v w' hR
theorem undrew {w w' : World} {row : Option Nat} (h : w.drew.grownBy w' row) : w.grownBy w' row := ⟨h.os, h.tape, h.output, h.size, h.block⟩
theorem itemI_named {h : List UInt8} {ps : List (List UInt8)} (h1 : h ≠ wEvent) (h2 : h ≠ wSite) : itemI h ps = (match ps with
    | [] => none
    | n :: qs => if nameB n = true then (qs.mapM canonI).bind (namedI h n) else none) := by unfold itemI; rw [if_neg h1, if_neg h2]; cases ps <;> rfl
theorem cell_plain {ps : List (List UInt8)} {nm : List UInt8} {x y z : Int} {vol : Bool} (hnm : ps.headD [] = nm) (h1 : ∀ a, canonI (ps.tail.headD []) = some a → x = a) (h2 : ∀ a, canonI (ps.tail.tail.headD []) = some a → y = a) (h3 : ∀ a, canonI (ps.tail.tail.tail.headD []) = some a → z = a) :
    (((((true && nameB (ps.headD [])) && (canonI (ps.tail.headD [])).isSome) && (canonI (ps.tail.tail.headD [])).isSome) && (canonI (ps.tail.tail.tail.headD [])).isSome) = true → ps.tail.tail.tail.tail = [] → itemI (if vol then wVol else wCell) ps = some (.cell ⟨nm, x, y, vol, z⟩)) ∧
    ((((((true && nameB (ps.headD [])) && (canonI (ps.tail.headD [])).isSome) && (canonI (ps.tail.tail.headD [])).isSome) && (canonI (ps.tail.tail.tail.headD [])).isSome) = false ∨ ps.tail.tail.tail.tail ≠ []) → itemI (if vol then wVol else wCell) ps = none) := by
  subst hnm
  rw [itemI_named (by cases vol <;> decide) (by cases vol <;> decide)]
  cases ps with
  | nil => simp [show nameB [] = false from rfl]
  | cons n qs =>
    simp only [List.headD_cons, List.tail_cons] at h1 h2 h3 ⊢
    obtain ⟨m1, m2⟩ := mapM3 h1 h2 h3
    cases hn : nameB n with
    | false => simp
    | true =>
      have hnd : ∀ a b c, namedI (if vol then wVol else wCell) n [a, b, c] = some (.cell ⟨n, a, b, vol, c⟩) := fun a b c => by
        unfold namedI
        rw [if_pos (by cases vol; exact .inl rfl; exact .inr rfl)]
        cases vol <;> rfl
      have hnn : ∀ ns, (∀ a b c, ns ≠ [a, b, c]) → namedI (if vol then wVol else wCell) n ns = none := fun ns h => by
        unfold namedI
        rw [if_pos (by cases vol; exact .inl rfl; exact .inr rfl)]
        rcases ns with _ | ⟨a, _ | ⟨b, _ | ⟨c, _ | ⟨d, r⟩⟩⟩⟩ <;> first | rfl | exact absurd rfl (h _ _ _)
      simp only [Bool.true_and, if_true]
      refine ⟨fun h e => ?_, fun h => ?_⟩
      · rw [m1.1 ⟨h, e⟩]; exact hnd _ _ _
      · cases hm : qs.mapM canonI with
        | none => rfl
        | some ns =>
          refine hnn ns fun a b c e => ?_
          subst e
          have := m1.2 (m2 ⟨a, b, c, hm⟩)
          rcases h with h | h
          · rw [this.1] at h; cases h
          · exact h this.2
theorem name_plain {h : List UInt8} {ps : List (List UInt8)} {nm : List UInt8} {it : Item} (hnm : ps.headD [] = nm) (h1 : h ≠ wEvent) (h2 : h ≠ wSite) (h3 : namedI h nm [] = some it) (h4 : ∀ ns, ns ≠ [] → namedI h nm ns = none) :
    ((true && nameB (ps.headD [])) = true → ps.tail = [] → itemI h ps = some it) ∧ (((true && nameB (ps.headD [])) = false ∨ ps.tail ≠ []) → itemI h ps = none) := by
  subst hnm
  rw [itemI_named h1 h2]
  cases ps with
  | nil => simp [show nameB [] = false from rfl]
  | cons n qs =>
    simp only [List.headD_cons, List.tail_cons, Bool.true_and] at h3 h4 ⊢
    cases hn : nameB n with
    | false => simp
    | true =>
      refine ⟨fun _ e => by rw [e]; simpa using h3, fun h => ?_⟩
      rcases h with h | h
      · cases h
      · simp only [if_true]
        cases hm : qs.mapM canonI with
        | none => rfl
        | some ns => exact h4 ns (fun e => by have := mapM_len hm; rw [e] at this; exact h (List.eq_nil_of_length_eq_zero (by simpa using this.symm)))
theorem fut_plain {ps : List (List UInt8)} {nm : List UInt8} (hnm : ps.headD [] = nm) : ((true && nameB (ps.headD [])) = true → ps.tail = [] → itemI wFut ps = some (.fut nm)) ∧ (((true && nameB (ps.headD [])) = false ∨ ps.tail ≠ []) → itemI wFut ps = none) :=
  name_plain hnm (by decide) (by decide) rfl (fun ns h => by cases ns with | nil => exact absurd rfl h | cons _ _ => rfl)
theorem thr_plain {ps : List (List UInt8)} {nm : List UInt8} (hnm : ps.headD [] = nm) : ((true && nameB (ps.headD [])) = true → ps.tail = [] → itemI wThr ps = some (.thr nm)) ∧ (((true && nameB (ps.headD [])) = false ∨ ps.tail ≠ []) → itemI wThr ps = none) :=
  name_plain hnm (by decide) (by decide) rfl (fun ns h => by cases ns with | nil => exact absurd rfl h | cons _ _ => rfl)
theorem lock_plain {ps : List (List UInt8)} {nm : List UInt8} {rw : Bool} (hnm : ps.headD [] = nm) : ((true && nameB (ps.headD [])) = true → ps.tail = [] → itemI (if rw then wRw else wMutex) ps = some (.lock ⟨nm, rw⟩)) ∧ (((true && nameB (ps.headD [])) = false ∨ ps.tail ≠ []) → itemI (if rw then wRw else wMutex) ps = none) :=
  name_plain hnm (by cases rw <;> decide) (by cases rw <;> decide) (by cases rw <;> rfl) (fun ns h => by cases ns with | nil => exact absurd rfl h | cons _ _ => cases rw <;> rfl)
theorem cond_plain {ps : List (List UInt8)} {nm : List UInt8} {x : Int} (hnm : ps.headD [] = nm) (h1 : ∀ a, canonI (ps.tail.headD []) = some a → x = a) :
    (((true && nameB (ps.headD [])) && (canonI (ps.tail.headD [])).isSome) = true → ps.tail.tail = [] → itemI wCond ps = some (.cond ⟨nm, x⟩)) ∧ ((((true && nameB (ps.headD [])) && (canonI (ps.tail.headD [])).isSome) = false ∨ ps.tail.tail ≠ []) → itemI wCond ps = none) := by
  subst hnm
  rw [itemI_named (by decide) (by decide)]
  cases ps with
  | nil => simp [show nameB [] = false from rfl]
  | cons n qs =>
    simp only [List.headD_cons, List.tail_cons] at h1 ⊢
    cases hn : nameB n with
    | false => simp
    | true =>
      rcases qs with _ | ⟨a, _ | ⟨b, r⟩⟩
      · refine ⟨fun h => by simp [canonI_nil] at h, fun _ => rfl⟩
      · simp only [List.headD_cons, List.tail_cons, Bool.true_and, if_true] at h1 ⊢
        cases e : canonI a with
        | none => exact ⟨fun h => by simp at h, fun _ => by simp [e]⟩
        | some a' =>
          obtain rfl := h1 _ e
          refine ⟨fun _ _ => by simp [e]; rfl, fun h => ?_⟩
          rcases h with h | h
          · simp at h
          · exact absurd rfl h
      · refine ⟨fun _ h => by simp at h, fun _ => ?_⟩
        simp only [if_true]
        cases hm : (a :: b :: r).mapM canonI with
        | none => rfl
        | some ns =>
          have := mapM_len hm
          rcases ns with _ | ⟨x', _ | ⟨y', r'⟩⟩
          · simp at this
          · simp at this
          · rfl
theorem site_plain {ps : List (List UInt8)} {x y z : Int} (h0 : ∀ a, canonI (ps.headD []) = some a → x = a) (h1 : ∀ a, canonI (ps.tail.headD []) = some a → y = a) (h2 : ∀ a, canonI (ps.tail.tail.headD []) = some a → z = a) :
    ((((true && (canonI (ps.headD [])).isSome) && (canonI (ps.tail.headD [])).isSome) && (canonI (ps.tail.tail.headD [])).isSome) = true → ps.tail.tail.tail = [] → itemI wSite ps = some (.site ⟨x, y, z⟩)) ∧
    (((((true && (canonI (ps.headD [])).isSome) && (canonI (ps.tail.headD [])).isSome) && (canonI (ps.tail.tail.headD [])).isSome) = false ∨ ps.tail.tail.tail ≠ []) → itemI wSite ps = none) := by
  obtain ⟨m1, m2⟩ := mapM3 h0 h1 h2
  have hI : itemI wSite ps = (match ps.mapM canonI with
    | some [x, y, z] => some (.site ⟨x, y, z⟩)
    | _ => none) := by unfold itemI; rw [if_neg (by decide), if_pos rfl]; rfl
  rw [hI]
  simp only [Bool.true_and]
  refine ⟨fun h e => by rw [m1.1 ⟨h, e⟩], fun h => ?_⟩
  split
  · rename_i a b c hm
    have := m1.2 (m2 ⟨a, b, c, hm⟩)
    rcases h with h | h
    · rw [this.1] at h; cases h
    · exact absurd this.2 h
  · rfl
theorem event_plain {ps l4 : List (List UInt8)} {okk : Bool} {ev : Evn} (h : (okk = true → l4 = [] → true = true ∧ eventI ps = some ev) ∧ ((okk = false ∨ l4 ≠ []) → true = false ∨ eventI ps = none)) :
    (okk = true → l4 = [] → itemI wEvent ps = some (.event ev)) ∧ ((okk = false ∨ l4 ≠ []) → itemI wEvent ps = none) := by
  have hI : itemI wEvent ps = (eventI ps).map .event := by unfold itemI; rw [if_pos rfl]
  rw [hI]
  refine ⟨fun a b => by rw [(h.1 a b).2]; rfl, fun a => ?_⟩
  rcases h.2 a with e | e
  · cases e
  · rw [e]; rfl
theorem evp_new {v : Nat → Value} {base N g : Nat} (h : ∀ i, i < 7 → ∀ g, (v i).ownBlock = some g → base ≤ g ∧ g < N) (hb : base ≤ N) (hg : N ≤ g) : EvP base v g :=
  ⟨by omega, fun i hi e => by have := (h i hi g e).2; omega⟩
theorem grown_below {w w' : World} {rb B : Nat} (hg : w.grownBy w' (some rb)) (hB : B ≤ w.heap.size) (hr : B ≤ rb) : Below B w w' := grownBy_below hg hB (fun g e => by injection e with e; omega)
end Go.Proofs.YtmnjmegejaejlaaDoor
