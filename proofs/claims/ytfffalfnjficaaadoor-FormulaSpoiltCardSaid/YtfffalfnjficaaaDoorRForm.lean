/-
  WORDS: a call as one step of a region that draws its order; the formula under way in (*formula.reader).formula.
-/
import Derived.Test.YtfffalfnjficaaaDoorParseSpec
import Derived.Test.YtfffalfnjficaaaDoorProblem
import Derived.BigCall
import Derived.Deep.Cut
import Derived.Deep.RegionLaw
namespace Go.Proofs.YtfffalfnjficaaaDoor
open Go.RowKit

/-- A call that returns, as one step of a region that draws its order. -/
theorem step_call_ret {P : Program} {ops : Array Oper} {o : Oper} {a : Act} {w : World} {K : Act → World → Prop} {Q : Exit → Act → World → Prop} {E : Prop} (hgd : o.guard = none) (f : FuncId) (xs : Array Operand) (ats : Array TypeId)
    (ho : o.op = .call { callee := .value (.func f), args := xs, argTypes := ats }) (fn : Func) (hf : P.funcs[f]? = some fn) (hname : (fn.name == "runtime.NumGoroutine") = false) (hb : fn.body.isNone = false)
    (vals : Array Value) (hx : xs.map a.eval = vals) {R : Ending → World → Prop} (hc : Calls P f vals w R) (hr : ∀ e w', R e w' → ∃ v, e = .returned v) (h : ∀ v w', R (.returned v) w' → K (a.put o.dst v) w') :
    if Region.wanted o (yielded ops a.tmps) = true then Oper.wp P o a w K Q else E := by
  have hw : Region.wanted o (yielded ops a.tmps) = true := by simp [Region.wanted, hgd]
  rw [if_pos hw]
  obtain ⟨dst, op, ty, pos, af, gd⟩ := o
  simp only at ho
  subst ho
  have he : (execOp a.eval { dst, op := .call { callee := .value (.func f), args := xs, argTypes := ats }, type := ty, pos, after := af, guard := gd }).run P w = .ok (.enter f vals) w := by
    have e1 : execOp a.eval { dst, op := .call { callee := .value (.func f), args := xs, argTypes := ats }, type := ty, pos, after := af, guard := gd } = callFunc f (#[] ++ xs.map a.eval ++ #[]) := rfl
    rw [e1, hx]
    have n1 : ¬ fn.name = "runtime.NumGoroutine" := by simpa using hname
    have n2 : ¬ fn.body = none := by intro e; rw [e] at hb; simp at hb
    simp [callFunc, go_sem, hf]
    rw [if_neg n1, if_neg n2]
  unfold Oper.wp
  rw [he]
  rw [Oper.upon_enter]
  refine hc.mono fun e w' hR => ?_
  obtain ⟨v, rfl⟩ := hr e w' hR
  exact h v w' hR
/-- A call that panics. -/
theorem step_call_panic {P : Program} {ops : Array Oper} {o : Oper} {a : Act} {w : World} {K : Act → World → Prop} {Q : Exit → Act → World → Prop} {E : Prop} (hgd : o.guard = none) (f : FuncId) (xs : Array Operand) (ats : Array TypeId)
    (ho : o.op = .call { callee := .value (.func f), args := xs, argTypes := ats }) (fn : Func) (hf : P.funcs[f]? = some fn) (hname : (fn.name == "runtime.NumGoroutine") = false) (hb : fn.body.isNone = false)
    (vals : Array Value) (hx : xs.map a.eval = vals) {R : Ending → World → Prop} (hc : Calls P f vals w R) (c : List PanicEntry) (hr : ∀ e w', R e w' → e = .panicked c) (h : ∀ w', R (.panicked c) w' → Q (.panic c) a w') :
    if Region.wanted o (yielded ops a.tmps) = true then Oper.wp P o a w K Q else E := by
  have hw : Region.wanted o (yielded ops a.tmps) = true := by simp [Region.wanted, hgd]
  rw [if_pos hw]
  obtain ⟨dst, op, ty, pos, af, gd⟩ := o
  simp only at ho
  subst ho
  have he : (execOp a.eval { dst, op := .call { callee := .value (.func f), args := xs, argTypes := ats }, type := ty, pos, after := af, guard := gd }).run P w = .ok (.enter f vals) w := by
    have e1 : execOp a.eval { dst, op := .call { callee := .value (.func f), args := xs, argTypes := ats }, type := ty, pos, after := af, guard := gd } = callFunc f (#[] ++ xs.map a.eval ++ #[]) := rfl
    rw [e1, hx]
    have n1 : ¬ fn.name = "runtime.NumGoroutine" := by simpa using hname
    have n2 : ¬ fn.body = none := by intro e; rw [e] at hb; simp at hb
    simp [callFunc, go_sem, hf]
    rw [if_neg n1, if_neg n2]
  unfold Oper.wp
  rw [he]
  rw [Oper.upon_enter]
  refine hc.mono fun e w' hR => ?_
  obtain rfl := hr e w' hR
  exact h w' hR

theorem rows_apart {w : World} {b1 b2 k1 k2 n1 n2 : Nat} {e1 e2 : TypeId} {v1 v2 : Value} {xs ys : List Value} (h1 : w.ownsRow b1 e1 k1 v1 n1 xs) (h2 : w.ownsRow b2 e2 k2 v2 n2 ys) (hne : e1 ≠ e2) : v1.ownBlock = none ∨ v1.ownBlock ≠ v2.ownBlock := by
  rcases h1.2 with ⟨rfl, _⟩ | ⟨g1, c1, cur1, rfl, _, hh1, _⟩
  · exact .inl rfl
  · right
    rcases h2.2 with ⟨rfl, _⟩ | ⟨g2, c2, cur2, rfl, _, hh2, _⟩
    · intro e; cases e
    · intro e
      have e' : g1 = g2 := by injection e
      subst e'
      rw [hh1] at hh2
      injection hh2 with hh2
      injection hh2 with _ h3 _
      exact hne h3

theorem grown_then {w wr w2 : World} {row : Option Nat} (h : w.grownBy wr row) (hb : Below w.heap.size wr w2) : w.grownBy w2 row :=
  ⟨hb.os.trans h.os, hb.tape.trans h.tape, hb.output.trans h.output, Nat.le_trans h.size hb.size, fun k hk hne => (hb.block k hk).trans (h.block k hk hne)⟩
/-- The formula under way, in block fb; the reader at block g of the caller's. -/
structure FmS (w wr : World) (g fb : Nat) (av cv : Value) (us : List Value) (f : Form) : Prop where
  gr : w.grownBy wr (some g)
  glt : g < w.heap.size
  rb : Blk wr w.heap.size 26 #[.int .i64 0, .int .i64 0, .slice none 0 0, .slice none 0 0]
  fbk : Blk wr fb 26 #[.int .i64 f.ints, .int .i64 f.bools, av, cv]
  lo : w.heap.size < fb
  hi : fb < wr.heap.size
  at_ : wr.ownsRow (fb + 1) 48 3 av f.atoms.length (f.atoms.flatMap Diff.cells)
  aok : ∀ d ∈ f.atoms, d.ok
  cl : OwnMat wr (fb + 1) (fun b => fb < b ∧ some b ≠ av.ownBlock) cv us f.clauses
  i1 : I64 f.ints
  i2 : I64 f.bools
section
variable {w wr w' : World} {g fb : Nat} {av cv : Value} {us : List Value} {f : Form}
theorem FmS.keep (h : FmS w wr g fb av cv us f) (hb : Below wr.heap.size wr w') : FmS w w' g fb av cv us f :=
  ⟨grownBy_trans h.gr (below_grown hb _), h.glt, h.rb.keep hb, h.fbk.keep hb, h.lo, Nat.lt_of_lt_of_le h.hi hb.size, owns_keep h.at_ hb, h.aok, h.cl.keep hb, h.i1, h.i2⟩
theorem FmS.rdr (h : FmS w wr g fb av cv us f) (hg : wr.grownBy w' (some g)) : FmS w w' g fb av cv us f := by
  have h1 := h.glt
  have h2 := h.lo
  refine ⟨grownBy_trans h.gr hg, h.glt, h.rb.grown hg (by intro e; injection e with e; omega), h.fbk.grown hg (by intro e; injection e with e; omega), h.lo, Nat.lt_of_lt_of_le h.hi hg.size, h.at_.kept hg (own_ne h.at_ (by omega)), h.aok, h.cl.grown hg (own_ne h.cl.1 (by omega)) fun b hb e => by injection e with e; omega, h.i1, h.i2⟩
/-- One more atom. -/
theorem FmS.atom {o : Obj} {av' : Value} {d : Diff} (h : FmS w wr g fb av cv us f) (hd : d.ok) (ho : w'.ownsRow (fb + 1) 48 3 av' (f.atoms.length + 1) (f.atoms.flatMap Diff.cells ++ Diff.cells d)) (hg : (wr.alloc o).grownBy w' av.ownBlock) (hat : av'.ownBlock = av.ownBlock ∨ av'.ownBlock = some (wr.alloc o).heap.size) :
    FmS w (w'.setCell ⟨fb, 2, none⟩ av') g fb av' cv us { f with atoms := f.atoms ++ [d] } ∧ Blk w' fb 26 #[.int .i64 f.ints, .int .i64 f.bools, av, cv] ∧ Below fb wr (w'.setCell ⟨fb, 2, none⟩ av') := by
  have h1 := h.glt
  have h2 := h.lo
  have h3 := h.hi
  have hlt : ∀ k, av.ownBlock = some k → fb + 1 ≤ k := fun k e => (h.at_.lt k e).1
  have hz : wr.heap.size + 1 ≤ w'.heap.size := by have := hg.size; simpa using this
  have kb : ∀ {b t cs}, b ≤ fb → Blk wr b t cs → Blk w' b t cs := fun hb hB => (hB.alloc o).grown hg fun e => by have := hlt _ e.symm; omega
  have hf := kb (Nat.le_refl _) h.fbk
  have hset : w'.grownBy (w'.setCell ⟨fb, 2, none⟩ av') (some fb) := grownBy_set0 _ _ _ _
  have hap := rows_apart h.cl.1 h.at_ (by decide)
  have hcl : OwnMat w' (fb + 1) (fun b => fb < b ∧ some b ≠ av'.ownBlock) cv us f.clauses := by
    have m1 : OwnMat wr (fb + 1) (fun b => (fb < b ∧ some b ≠ av.ownBlock) ∧ b < wr.heap.size) cv us f.clauses := h.cl.mono fun b hb hp => ⟨hp, hb⟩
    have m2 := (m1.grown (grown_alloc wr o) (by cases hc : cv.ownBlock <;> simp) (fun b _ => by simp)).grown hg hap fun b hb => hb.1.2
    refine m2.mono fun b _ hb => ⟨hb.1.1, ?_⟩
    rcases hat with e | e <;> rw [e]
    · exact hb.1.2
    · simp; omega
  have ho2 : w'.ownsRow (fb + 1) 48 3 av' (f.atoms ++ [d]).length ((f.atoms ++ [d]).flatMap Diff.cells) := by simpa [List.flatMap_append] using ho
  refine ⟨⟨?_, h.glt, (kb (by omega) h.rb).far (by show w.heap.size ≠ fb; omega) _, hf.set_ 2 _, h.lo, by simp; omega, ho2.kept hset (own_ne ho2 (by omega)), fun y hy => ?_, hcl.grown hset (own_ne hcl.1 (by omega)) (fun b hb e => by injection e with e; omega), h.i1, h.i2⟩, hf, (((Below.refl _ wr).alloc (Nat.le_of_lt h3) o).grown hg (by simp; omega) fun k e => by have := hlt k e; omega).setCell (Nat.le_refl _) _⟩
  · refine grown_then h.gr ?_
    have hs := h.gr.size
    exact (((Below.refl _ wr).alloc hs o).grown hg (by simp; omega) fun k e => by have := hlt k e; omega).setCell (by show w.heap.size ≤ fb; omega) _
  · rcases List.mem_append.1 hy with hy | hy
    · exact h.aok y hy
    · rw [List.mem_singleton] at hy; subst hy; exact hd
/-- One more clause. -/
theorem FmS.clause {o : Obj} {cv' u : Value} {xs : List Int} (h : FmS w wr g fb av cv us f) (hu : IntsO wr (fun b => (fb < b ∧ some b ≠ av.ownBlock) ∧ some b ≠ cv.ownBlock) u xs) (ho : w'.ownsRow (fb + 1) 49 1 cv' (us.length + 1) (us ++ [u])) (hg : (wr.alloc o).grownBy w' cv.ownBlock) (hat : cv'.ownBlock = cv.ownBlock ∨ cv'.ownBlock = some (wr.alloc o).heap.size) :
    FmS w (w'.setCell ⟨fb, 3, none⟩ cv') g fb av cv' (us ++ [u]) { f with clauses := f.clauses ++ [xs] } ∧ Blk w' fb 26 #[.int .i64 f.ints, .int .i64 f.bools, av, cv] ∧ Below fb wr (w'.setCell ⟨fb, 3, none⟩ cv') := by
  have h1 := h.glt
  have h2 := h.lo
  have h3 := h.hi
  have hlt : ∀ k, cv.ownBlock = some k → fb + 1 ≤ k := fun k e => (h.cl.1.lt k e).1
  have hz : wr.heap.size + 1 ≤ w'.heap.size := by have := hg.size; simpa using this
  have kb : ∀ {b t cs}, b ≤ fb → Blk wr b t cs → Blk w' b t cs := fun hb hB => (hB.alloc o).grown hg fun e => by have := hlt _ e.symm; omega
  have hf := kb (Nat.le_refl _) h.fbk
  have hset : w'.grownBy (w'.setCell ⟨fb, 3, none⟩ cv') (some fb) := grownBy_set0 _ _ _ _
  have hap := rows_apart h.at_ h.cl.1 (by decide)
  have hcl := h.cl.push (xs := xs) hu ho hg hat
  have hat2 := (h.at_.alloc o).kept hg hap
  refine ⟨⟨?_, h.glt, (kb (by omega) h.rb).far (by show w.heap.size ≠ fb; omega) _, hf.set_ 3 _, h.lo, by simp; omega, hat2.kept hset (own_ne hat2 (by omega)), h.aok, hcl.grown hset (own_ne hcl.1 (by omega)) (fun b hb e => by injection e with e; omega), h.i1, h.i2⟩, hf, (((Below.refl _ wr).alloc (Nat.le_of_lt h3) o).grown hg (by simp; omega) fun k e => by have := hlt k e; omega).setCell (Nat.le_refl _) _⟩
  refine grown_then h.gr ?_
  have hs := h.gr.size
  exact (((Below.refl _ wr).alloc hs o).grown hg (by simp; omega) fun k e => by have := hlt k e; omega).setCell (by show w.heap.size ≤ fb; omega) _
end
theorem FmS.fresh {w wr w' : World} {g fb gz : Nat} {av cv : Value} {us : List Value} {f : Form} {ns : List Int} {t : TypeId} (h : FmS w wr g fb av cv us f) (hz : wr.heap.size ≤ gz) (hb : Blk w' gz t (rowI ns)) (hi : ∀ v ∈ ns, I64 v) (hl : ns.length ≤ maxLen) : IntsO w' (fun b => (fb < b ∧ some b ≠ av.ownBlock) ∧ some b ≠ cv.ownBlock) (.slice (some ⟨gz, 0, none⟩) ns.length ns.length) ns := by
  have h1 := h.hi
  refine ⟨_, _, rfl, Nat.le_refl _, hl, hi, fun _ => ⟨gz, 0, rfl, hb.lt, ⟨⟨by omega, fun e => ?_⟩, fun e => ?_⟩, fun j u hu => ?_⟩⟩
  · have := (h.at_.lt gz e.symm).2; omega
  · have := (h.cl.1.lt gz e.symm).2; omega
  · rw [Nat.zero_add]; exact (hb.cell j).trans (by rw [rowI, List.getElem?_toArray]; exact hu)
theorem owns_far {w w2 : World} {B base n k : Nat} {e : TypeId} {v : Value} {xs : List Value} (h : w.ownsRow base e k v n xs) (hB : B ≤ base) (hk : ∀ j, B ≤ j → j < w.heap.size → w2.heap[j]? = w.heap[j]?) : w2.ownsRow base e k v n xs := by
  refine ⟨h.1, ?_⟩
  rcases h.2 with hn | ⟨g, cap, cur, rfl, hg, hgg, rest⟩
  · exact .inl hn
  · have hlt := (h.lt g rfl).2
    exact .inr ⟨g, cap, cur, rfl, hg, (hk g (by omega) hlt).trans hgg, rest⟩
theorem IntsO.far {w w2 : World} {B : Nat} {P : Nat → Prop} {v : Value} {xs : List Int} (h : IntsO w P v xs) (hP : ∀ b, P b → B ≤ b) (hs : w.heap.size ≤ w2.heap.size) (hk : ∀ j, B ≤ j → j < w.heap.size → w2.heap[j]? = w.heap[j]?) : IntsO w2 P v xs := by
  obtain ⟨A, c, h1, h2, h3, h4, h5⟩ := h
  refine ⟨A, c, h1, h2, h3, h4, fun h0 => ?_⟩
  obtain ⟨b, off, a1, a2, a3, a4⟩ := h5 h0
  exact ⟨b, off, a1, Nat.lt_of_lt_of_le a2 hs, a3, fun j u hu => (World.cell?_of_block (hk b (hP b a3) a2)).trans (a4 j u hu)⟩
theorem OwnMat.far {w w2 : World} {B base : Nat} {P : Nat → Prop} {v : Value} {us : List Value} {xss : List (List Int)} (h : OwnMat w base P v us xss) (hB : B ≤ base) (hP : ∀ b, P b → B ≤ b) (hs : w.heap.size ≤ w2.heap.size) (hk : ∀ j, B ≤ j → j < w.heap.size → w2.heap[j]? = w.heap[j]?) : OwnMat w2 base P v us xss :=
  ⟨owns_far h.1 hB hk, h.2.1, fun k u xs a b => (h.2.2 k u xs a b).far (fun b hb => hP b hb.1) hs hk⟩
def set4 (w : World) (g : Nat) (v0 v1 v2 v3 : Value) : World := (((w.setCell ⟨g, 0, none⟩ v0).setCell ⟨g, 1, none⟩ v1).setCell ⟨g, 2, none⟩ v2).setCell ⟨g, 3, none⟩ v3
theorem blk_set4 {w : World} {g : Nat} {t : TypeId} {u0 u1 u2 u3 : Value} (h : Blk w g t #[u0, u1, u2, u3]) (v0 v1 v2 v3 : Value) : Blk (set4 w g v0 v1 v2 v3) g t #[v0, v1, v2, v3] :=
  (((h.set_ 0 v0).set_ 1 v1).set_ 2 v2).set_ 3 v3
theorem grown_set4 (w : World) (g : Nat) (v0 v1 v2 v3 : Value) : w.grownBy (set4 w g v0 v1 v2 v3) (some g) :=
  grownBy_trans (grownBy_trans (grownBy_trans (grownBy_set0 _ _ _ _) (grownBy_set0 _ _ _ _)) (grownBy_set0 _ _ _ _)) (grownBy_set0 _ _ _ _)
theorem far4 {w : World} {g b : Nat} {t : TypeId} {cs : Array Value} (h : Blk w g t cs) (hne : b ≠ g) (v0 v1 v2 v3 : Value) : Blk (set4 w b v0 v1 v2 v3) g t cs :=
  (((h.far (by show g ≠ b; omega) v0).far (by show g ≠ b; omega) v1).far (by show g ≠ b; omega) v2).far (by show g ≠ b; omega) v3
theorem below4 {B : Nat} {w w' : World} (h : Below B w w') (v0 v1 v2 v3 : Value) : Below B w (set4 w' B v0 v1 v2 v3) :=
  (((h.setCell (Nat.le_refl B) v0).setCell (Nat.le_refl B) v1).setCell (Nat.le_refl B) v2).setCell (Nat.le_refl B) v3
theorem step_app_own {P : Program} {ops : Array Oper} {o : Oper} {a : Act} {w : World} {K : Act → World → Prop} {Q : Exit → Act → World → Prop} {E : Prop} (hgd : o.guard = none) (s x : Operand) (t : TypeId)
    (ho : o.op = .call { callee := .builtin .append, args := #[s, x], argTypes := #[t, t] })
    (base : Nat) (e : TypeId) (i : TypeInfo) (z : Value) (size bytes : Nat) (ht : P.underlying t = some (.slice e)) (hi : P.info? e = some i) (hz : i.zero = some z)
    (hsize : i.size = size) (hby : i.bytes = bytes) (hzs : z.cells.size = size) (hsz : 0 < size)
    (v : Value) (n : Nat) (xs : List Value) (hs : a.eval s = v) (hown : w.ownsRow base e size v n xs)
    (ad : Addr) (m c : Nat) (news : List Value) (hx : a.eval x = .slice (some ad) m c) (hl : news.length = m * size) (hnews : ∀ j u, news[j]? = some u → w.cell? (ad.add j) = some u) (h1 : ∀ u ∈ news, u.oneCell' = true)
    (h63 : n + m ≤ maxLen) (hbytes : (n + m) * bytes ≤ 140737488355328) (hbase : base ≤ w.heap.size)
    (h : ∀ v' w', w'.ownsRow base e size v' (n + m) (xs ++ news) → w.grownBy w' v.ownBlock → (v'.ownBlock = v.ownBlock ∨ v'.ownBlock = some w.heap.size) → K (a.put o.dst v') w') :
    if Region.wanted o (yielded ops a.tmps) = true then Oper.wp P o a w K Q else E := by
  have hw : Region.wanted o (yielded ops a.tmps) = true := by simp [Region.wanted, hgd]
  rw [if_pos hw]
  obtain ⟨v', w', hr, h2, h3, _, h5⟩ := run_append_own_at (P := P) w base t o.type e i z size bytes ht hi hz hsize hby hzs hsz v n xs hown ad m c news hl hnews h1 h63 hbytes hbase
  unfold Oper.wp execOp
  simp only [ho, resolve, invoke, builtin, Sem.run_bind, Sem.run_pure, Result.andThen_ok, List.map_toArray, List.map_cons, List.map_nil, hs, hx, hr]
  exact h v' w' h2 h3 h5

/-- A call that panics in whatever world: what is behind it in the region need not be walked; it is handed on under a hidden falsehood, for the tactic that bears one way alone. -/
theorem step_call_off {P : Program} {ops : Array Oper} {o : Oper} {a : Act} {w : World} {K : Act → World → Prop} {Q : Exit → Act → World → Prop} {E : Prop} (hgd : o.guard = none) (f : FuncId) (xs : Array Operand) (ats : Array TypeId)
    (ho : o.op = .call { callee := .value (.func f), args := xs, argTypes := ats }) (fn : Func) (hf : P.funcs[f]? = some fn) (hname : (fn.name == "runtime.NumGoroutine") = false) (hb : fn.body.isNone = false)
    (vals : Array Value) (hx : xs.map a.eval = vals) {R : Ending → World → Prop} (hc : Calls P f vals w R) (c : List PanicEntry) (hr : ∀ e w', R e w' → e = .panicked c) (h : ∀ w', R (.panicked c) w' → Q (.panic c) a w') (v : Value) (w2 : World) (_h2 : Hid False → K (a.put o.dst v) w2) :
    if Region.wanted o (yielded ops a.tmps) = true then Oper.wp P o a w K Q else E :=
  step_call_panic hgd f xs ats ho fn hf hname hb vals hx hc c hr h
theorem step_off {P : Program} {ops : Array Oper} {o : Oper} {a : Act} {w : World} {K : Act → World → Prop} {Q : Exit → Act → World → Prop} {E : Prop} (hf : Hid False) (v : Value) (w2 : World) (_h2 : K (a.put o.dst v) w2) :
    if Region.wanted o (yielded ops a.tmps) = true then Oper.wp P o a w K Q else E := hf.out.elim
end Go.Proofs.YtfffalfnjficaaaDoor
