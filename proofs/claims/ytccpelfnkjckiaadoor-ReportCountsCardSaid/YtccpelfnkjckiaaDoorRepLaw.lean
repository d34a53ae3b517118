/-
  PLAIN LAW: the reference's groups and its sorting; the reports of findings are one list.
-/
import Derived.Test.YtccpelfnkjckiaaDoorRepG0
import Derived.Test.YtccpelfnkjckiaaDoorRepAsc
namespace Go.Proofs.YtccpelfnkjckiaaDoor

/-- Groups of the findings below k. -/
def IsGroupsTo (ps : List (Fnd × FndM)) (k : Nat) (gs : List (List Nat)) : Prop :=
  (∀ g ∈ gs, g ≠ [] ∧ ∀ i ∈ g, ∀ j ∈ g, keyI ps i = keyI ps j) ∧ gs.flatten.Perm (foundTo (ps.map (·.1)) k) ∧ gs.Pairwise (fun g h => ∀ i ∈ g, ∀ j ∈ h, keyI ps i ≠ keyI ps j) ∧ ∀ g ∈ gs, g.Pairwise (· < ·)
theorem IsGroupsTo.all {ps : List (Fnd × FndM)} {gs : List (List Nat)} (h : IsGroupsTo ps ps.length gs) : IsGroups ps gs := h
theorem IsGroupsTo.lt {ps : List (Fnd × FndM)} {k : Nat} {gs : List (List Nat)} (h : IsGroupsTo ps k gs) : ∀ g ∈ gs, ∀ i ∈ g, i < k := fun g hg _ hi =>
  foundTo_lt _ _ _ (h.2.1.mem_iff.1 (List.mem_flatten.2 ⟨g, hg, hi⟩))
theorem IsGroupsTo.skip {ps : List (Fnd × FndM)} {k : Nat} {gs : List (List Nat)} {p : Fnd × FndM} (h : IsGroupsTo ps k gs) (hk : ps[k]? = some p) (hf : p.1.found = false) : IsGroupsTo ps (k + 1) gs := by
  refine ⟨h.1, ?_, h.2.2⟩
  rw [foundTo_succ, List.getElem?_map, hk]
  simp only [Option.map_some, Option.any_some, hf]
  simpa using h.2.1
theorem IsGroupsTo.new {ps : List (Fnd × FndM)} {k : Nat} {gs : List (List Nat)} {p : Fnd × FndM} (h : IsGroupsTo ps k gs) (hk : ps[k]? = some p) (hf : p.1.found = true) (hn : ∀ g ∈ gs, ∀ i ∈ g, keyI ps i ≠ keyI ps k) : IsGroupsTo ps (k + 1) (gs ++ [[k]]) := by
  obtain ⟨h1, h2, h3, h4⟩ := h
  refine ⟨fun g hg => ?_, ?_, ?_, fun g hg => ?_⟩
  · rcases List.mem_append.1 hg with hg | hg
    · exact h1 g hg
    · rw [List.mem_singleton] at hg; subst hg
      refine ⟨by simp, fun i hi j hj => ?_⟩
      rw [List.mem_singleton] at hi hj; rw [hi, hj]
  · rw [foundTo_succ, List.getElem?_map, hk]
    simp only [Option.map_some, Option.any_some, hf, if_true]
    rw [List.flatten_append, List.flatten_singleton]
    exact h2.append_right [k]
  · rw [List.pairwise_append]
    refine ⟨h3, by simp, fun g hg q hq i hi j hj => ?_⟩
    rw [List.mem_singleton] at hq; subst hq
    rw [List.mem_singleton] at hj; subst hj
    exact hn g hg i hi
  · rcases List.mem_append.1 hg with hg | hg
    · exact h4 g hg
    · rw [List.mem_singleton] at hg; subst hg; simp
theorem IsGroupsTo.more {ps : List (Fnd × FndM)} {k m : Nat} {gs : List (List Nat)} {g : List Nat} {p : Fnd × FndM} (h : IsGroupsTo ps k gs) (hk : ps[k]? = some p) (hf : p.1.found = true) (hm : gs[m]? = some g) (he : ∀ i ∈ g, keyI ps i = keyI ps k) : IsGroupsTo ps (k + 1) (gs.set m (g ++ [k])) := by
  have hlt := h.lt
  obtain ⟨h1, h2, h3, h4⟩ := h
  obtain ⟨hml, hme⟩ := List.getElem?_eq_some_iff.1 hm
  have hg : g ∈ gs := List.mem_of_getElem? hm
  refine ⟨fun q hq => ?_, ?_, ?_, fun q hq => ?_⟩
  · rcases List.mem_or_eq_of_mem_set hq with hq | rfl
    · exact h1 q hq
    · refine ⟨by simp, fun i hi j hj => ?_⟩
      have key : ∀ x ∈ g ++ [k], keyI ps x = keyI ps k := fun x hx => by
        rcases List.mem_append.1 hx with hx | hx
        · exact he x hx
        · rw [List.mem_singleton] at hx; rw [hx]
      rw [key i hi, key j hj]
  · rw [foundTo_succ, List.getElem?_map, hk]
    simp only [Option.map_some, Option.any_some, hf, if_true]
    have e1 : gs = gs.take m ++ g :: gs.drop (m + 1) := by
      rw [← hme, ← List.drop_eq_getElem_cons hml, List.take_append_drop]
    have e2 : gs.set m (g ++ [k]) = gs.take m ++ (g ++ [k]) :: gs.drop (m + 1) := by
      rw [List.set_eq_take_append_cons_drop, if_pos hml]
    rw [e2]
    have h5 : (gs.take m ++ g :: gs.drop (m + 1)).flatten.Perm (foundTo (ps.map (·.1)) k) := by rw [← e1]; exact h2
    rw [List.flatten_append, List.flatten_cons] at h5 ⊢
    refine List.Perm.trans ?_ (h5.append_right [k])
    rw [List.append_assoc, List.append_assoc, List.append_assoc]
    refine List.Perm.append_left _ (List.Perm.append_left _ ?_)
    exact List.perm_append_comm
  · rw [List.pairwise_iff_getElem] at h3 ⊢
    intro i j hi hj hij x hx y hy
    rw [List.length_set] at hi hj
    rw [List.getElem_set] at hx hy
    have hxx : ∃ x' ∈ gs[i], keyI ps x = keyI ps x' := by
      split at hx
      · rename_i e
        subst e
        have hne : g ≠ [] := (h1 g hg).1
        obtain ⟨z, hz⟩ := List.exists_mem_of_ne_nil g hne
        rcases List.mem_append.1 hx with hx | hx
        · exact ⟨x, by rw [hme]; exact hx, rfl⟩
        · rw [List.mem_singleton] at hx; subst hx; exact ⟨z, by rw [hme]; exact hz, (he z hz).symm⟩
      · exact ⟨x, hx, rfl⟩
    have hyy : ∃ y' ∈ gs[j], keyI ps y = keyI ps y' := by
      split at hy
      · rename_i e
        subst e
        have hne : g ≠ [] := (h1 g hg).1
        obtain ⟨z, hz⟩ := List.exists_mem_of_ne_nil g hne
        rcases List.mem_append.1 hy with hy | hy
        · exact ⟨y, by rw [hme]; exact hy, rfl⟩
        · rw [List.mem_singleton] at hy; subst hy; exact ⟨z, by rw [hme]; exact hz, (he z hz).symm⟩
      · exact ⟨y, hy, rfl⟩
    obtain ⟨x', hx', ex⟩ := hxx
    obtain ⟨y', hy', ey⟩ := hyy
    rw [ex, ey]
    exact h3 i j hi hj hij x' hx' y' hy'
  · rcases List.mem_or_eq_of_mem_set hq with hq | rfl
    · exact h4 q hq
    · rw [List.pairwise_append]
      refine ⟨h4 g hg, by simp, fun x hx y hy => ?_⟩
      rw [List.mem_singleton] at hy; subst hy
      exact hlt g hg x hx

/-- A report under way, ahead of its score. -/
def preOf (fs : List Fnd) (G : List Nat) : Rep := { repOf fs G with score := 0 }
/-- What a finding does to its report. -/
def updR (fs : List Fnd) (r : Rep) (k : Nat) (b : Nat) : Rep := { r with count := r.count + 1, starts := insAsc r.starts (stOf fs k), best := if wlOf fs k < wlOf fs b then (k : Int) else r.best }
theorem preOf_one (fs : List Fnd) {f : Fnd} {k : Nat} (h : fs[k]? = some f) : preOf fs [k] = updR fs ⟨f.kind, f.sites, [], 0, k, 0⟩ k k := by
  unfold preOf repOf updR startsOf bestOf
  simp only [List.headD_cons, h, Option.getD_some, List.length_singleton, List.map_cons, List.map_nil, List.foldl_cons, List.foldl_nil, Nat.lt_irrefl, if_false]
  have := compact_snoc [] (stOf fs k)
  rw [List.nil_append] at this
  rw [this]
  simp [Lib.compact, Lib.compactUpTo]
theorem preOf_snoc (fs : List Fnd) {G : List Nat} (hG : G ≠ []) (k : Nat) : preOf fs (G ++ [k]) = updR fs (preOf fs G) k (bestOf fs (G.headD 0) G) := by
  have e : (G ++ [k]).headD 0 = G.headD 0 := by cases G with
    | nil => exact absurd rfl hG
    | cons a t => rfl
  unfold preOf repOf updR startsOf
  simp only [e]
  rw [List.map_append, List.map_singleton, compact_snoc]
  have hb : bestOf fs (G.headD 0) (G ++ [k]) = if wlOf fs k < wlOf fs (bestOf fs (G.headD 0) G) then k else bestOf fs (G.headD 0) G := by
    unfold bestOf wlOf
    rw [List.foldl_append]; rfl
  rw [hb]
  simp only [List.length_append, List.length_singleton]
  congr 1
  split <;> rfl
/-- The score of a report under way. -/
theorem preOf_score (fs : List Fnd) (G : List Nat) : { preOf fs G with score := scoreOf (preOf fs G).kind (preOf fs G).starts.length (wlOf fs (bestOf fs (G.headD 0) G)) } = repOf fs G := rfl

/-- A report is put into its place. -/
def insR (l : List Rep) (r : Rep) : List Rep := l.takeWhile (fun x => lessR x r) ++ r :: l.dropWhile (fun x => lessR x r)
theorem insR_perm (l : List Rep) (r : Rep) : (insR l r).Perm (r :: l) := by
  unfold insR
  refine List.perm_middle.trans (List.Perm.cons _ ?_)
  rw [List.takeWhile_append_dropWhile]
theorem insR_at {l : List Rep} {r : Rep} {i : Nat} (hi : i ≤ l.length) (h1 : ∀ j x, j < i → l[j]? = some x → lessR x r = true) (h2 : ∀ x, l[i]? = some x → lessR x r = false) : insR l r = l.take i ++ r :: l.drop i := by
  have key : l.takeWhile (fun x => lessR x r) = l.take i ∧ l.dropWhile (fun x => lessR x r) = l.drop i := by
    induction l generalizing i with
    | nil => simp
    | cons a t ih =>
      cases i with
      | zero =>
        have := h2 a rfl
        simp [this]
      | succ i =>
        have h0 := h1 0 a (by omega) rfl
        obtain ⟨e1, e2⟩ := ih (i := i) (by simpa using hi) (fun j x hj hx => h1 (j + 1) x (by omega) (by simpa using hx)) (fun x hx => h2 x (by simpa using hx))
        simp [h0, e1, e2]
  unfold insR
  rw [key.1, key.2]
theorem lessR_ntrans {a b c : Rep} (h1 : lessR b a = false) (h2 : lessR c b = false) : lessR c a = false := by
  have e1 : ¬ cmpL b.rank a.rank < 0 := fun h => by rw [lessR_iff.2 h] at h1; cases h1
  have e2 : ¬ cmpL c.rank b.rank < 0 := fun h => by rw [lessR_iff.2 h] at h2; cases h2
  cases h : lessR c a
  · rfl
  · have e3 := lessR_iff.1 h
    have a1 := cmpL_anti a.rank b.rank
    have a2 := cmpL_anti b.rank c.rank
    have a3 := cmpL_anti c.rank a.rank
    have a4 := cmpL_anti b.rank a.rank
    have a5 := cmpL_anti c.rank b.rank
    have a6 := cmpL_anti a.rank c.rank
    have t := cmpL_trans a.rank b.rank c.rank (by omega) (by omega)
    omega
theorem takeWhile_allR {p : Rep → Bool} {l : List Rep} : ∀ x ∈ l.takeWhile p, p x = true := by
  induction l with
  | nil => simp
  | cons a t ih =>
    intro x hx
    rw [List.takeWhile_cons] at hx
    split at hx
    · rename_i h
      rcases List.mem_cons.1 hx with rfl | hx
      · exact h
      · exact ih x hx
    · simp at hx
theorem insR_sorted {l : List Rep} {r : Rep} (h : l.Pairwise (fun a b => lessR b a = false)) : (insR l r).Pairwise (fun a b => lessR b a = false) := by
  unfold insR
  have e := List.takeWhile_append_dropWhile (p := fun x => lessR x r) (l := l)
  have hA := @takeWhile_allR (fun x => lessR x r) l
  have hH := @dropWhile_head Rep (fun x => lessR x r) l
  generalize l.takeWhile (fun x => lessR x r) = a at *
  generalize l.dropWhile (fun x => lessR x r) = b at *
  subst e
  rw [List.pairwise_append] at h ⊢
  obtain ⟨h1, h2, h3⟩ := h
  have hb : ∀ x ∈ b, lessR x r = false := by
    cases b with
    | nil => simp
    | cons y ys =>
      have h4 : lessR y r = false := hH rfl
      intro x hx
      rcases List.mem_cons.1 hx with rfl | hx
      · exact h4
      · exact lessR_ntrans h4 ((List.pairwise_cons.1 h2).1 x hx)
  have ha : ∀ x ∈ a, lessR r x = false := fun x hx => by
    have h5 : lessR x r = true := hA x hx
    cases h6 : lessR r x
    · rfl
    · have e1 := lessR_iff.1 h5
      have e2 := lessR_iff.1 h6
      have := (cmpL_anti r.rank x.rank).1 e2
      omega
  refine ⟨h1, List.pairwise_cons.2 ⟨hb, h2⟩, fun x hx y hy => ?_⟩
  rcases List.mem_cons.1 hy with rfl | hy
  · exact ha x hx
  · exact h3 x hx y hy
def sortR (l : List Rep) : List Rep := l.foldl insR []
theorem sortR_snoc (l : List Rep) (r : Rep) : sortR (l ++ [r]) = insR (sortR l) r := by unfold sortR; rw [List.foldl_append]; rfl
theorem sortR_spec (l : List Rep) : (sortR l).Perm l ∧ (sortR l).Pairwise (fun a b => lessR b a = false) := by
  suffices h : ∀ n, (sortR (l.take n)).Perm (l.take n) ∧ (sortR (l.take n)).Pairwise (fun a b => lessR b a = false) by
    have := h l.length
    rwa [List.take_length] at this
  intro n
  induction n with
  | zero => simp [sortR]
  | succ n ih =>
    by_cases hn : n < l.length
    · rw [List.take_succ_eq_append_getElem hn, sortR_snoc]
      refine ⟨?_, insR_sorted ih.2⟩
      refine (insR_perm _ _).trans ((ih.1.cons _).trans ?_)
      exact (List.perm_append_singleton _ _).symm
    · rw [List.take_of_length_le (by omega)] at ih ⊢
      exact ih
theorem sortR_reports {ps : List (Fnd × FndM)} {gs : List (List Nat)} (h : IsGroups ps gs) : IsReports ps (sortR (gs.map (repOf (ps.map (·.1))))) :=
  ⟨gs, (sortR_spec _).1, (sortR_spec _).2, h⟩

/-- A group's report knows its key. -/
theorem repOf_key {ps : List (Fnd × FndM)} {g : List Nat} {i : Nat} (hg : g ≠ []) (hk : ∀ i ∈ g, ∀ j ∈ g, keyI ps i = keyI ps j) (hl : ∀ i ∈ g, i < ps.length) (hi : i ∈ g) : keyI ps i = some ((repOf (ps.map (·.1)) g).kind :: (repOf (ps.map (·.1)) g).sites) := by
  cases g with
  | nil => exact absurd rfl hg
  | cons a t =>
    rw [hk i hi a (by simp)]
    have hla := hl a (by simp)
    obtain ⟨p, hp⟩ : ∃ p, ps[a]? = some p := ⟨_, List.getElem?_eq_getElem hla⟩
    unfold keyI repOf
    simp only [List.headD_cons, List.getElem?_map, hp, Option.map_some, Option.getD_some]
    rfl
theorem nat_asc_ext {l m : List Nat} (hl : l.Pairwise (· < ·)) (hm : m.Pairwise (· < ·)) (h : ∀ x, x ∈ l ↔ x ∈ m) : l = m := by
  induction l generalizing m with
  | nil =>
    cases m with
    | nil => rfl
    | cons y ys => exact absurd ((h y).2 (by simp)) (by simp)
  | cons x xs ih =>
    cases m with
    | nil => exact absurd ((h x).1 (by simp)) (by simp)
    | cons y ys =>
      obtain ⟨hx, hxs⟩ := List.pairwise_cons.1 hl
      obtain ⟨hy, hys⟩ := List.pairwise_cons.1 hm
      have e : x = y := by
        rcases List.mem_cons.1 ((h x).1 (by simp)) with e | e
        · exact e
        · rcases List.mem_cons.1 ((h y).2 (by simp)) with e2 | e2
          · exact e2.symm
          · have := hy x e; have := hx y e2; omega
      subst e
      congr 1
      refine ih hxs hys fun z => ⟨fun hz => ?_, fun hz => ?_⟩
      · rcases List.mem_cons.1 ((h z).1 (by simp [hz])) with e | e
        · subst e; have := hx z hz; omega
        · exact e
      · rcases List.mem_cons.1 ((h z).2 (by simp [hz])) with e | e
        · subst e; have := hy z hz; omega
        · exact e
theorem groups_sub {ps : List (Fnd × FndM)} {gs hs : List (List Nat)} (h1 : IsGroups ps gs) (h2 : IsGroups ps hs) : ∀ g ∈ gs, g ∈ hs := by
  have key : ∀ {ls ms : List (List Nat)}, IsGroups ps ls → IsGroups ps ms → ∀ a ∈ ls, ∀ b ∈ ms, ∀ z ∈ a, z ∈ b → ∀ x ∈ a, x ∈ b := by
    intro ls ms ha hb a haa b hbb z hza hzb x hx
    have hxf : x ∈ ms.flatten := hb.2.1.mem_iff.2 (ha.2.1.mem_iff.1 (List.mem_flatten.2 ⟨a, haa, hx⟩))
    obtain ⟨c, hc, hxc⟩ := List.mem_flatten.1 hxf
    have e : keyI ps x = keyI ps z := (ha.1 a haa).2 x hx z hza
    have hbc : b = c := by
      obtain ⟨i, hi, rfl⟩ := List.getElem_of_mem hbb
      obtain ⟨j, hj, rfl⟩ := List.getElem_of_mem hc
      have hp := List.pairwise_iff_getElem.1 hb.2.2.1
      rcases Nat.lt_trichotomy i j with h | h | h
      · exact absurd e.symm (hp i j hi hj h z hzb x hxc)
      · subst h; rfl
      · exact absurd e (hp j i hj hi h x hxc z hzb)
    rw [hbc]; exact hxc
  intro g hg
  obtain ⟨z, hz⟩ := List.exists_mem_of_ne_nil g (h1.1 g hg).1
  have hzf : z ∈ hs.flatten := h2.2.1.mem_iff.2 (h1.2.1.mem_iff.1 (List.mem_flatten.2 ⟨g, hg, hz⟩))
  obtain ⟨c, hc, hzc⟩ := List.mem_flatten.1 hzf
  have e : g = c := nat_asc_ext (h1.2.2.2 g hg) (h2.2.2.2 c hc) fun x => ⟨key h1 h2 g hg c hc z hz hzc x, key h2 h1 c hc g hg z hzc hz x⟩
  rw [e]; exact hc
theorem groups_nodup {ps : List (Fnd × FndM)} {gs : List (List Nat)} (h : IsGroups ps gs) : gs.Nodup := by
  refine List.Pairwise.imp_of_mem ?_ h.2.2.1
  intro a b ha hb hab e
  obtain ⟨z, hz⟩ := List.exists_mem_of_ne_nil a (h.1 a ha).1
  exact hab z hz z (e ▸ hz) rfl
theorem groups_perm {ps : List (Fnd × FndM)} {gs hs : List (List Nat)} (h1 : IsGroups ps gs) (h2 : IsGroups ps hs) : gs.Perm hs := by
  rw [List.perm_ext_iff_of_nodup (groups_nodup h1) (groups_nodup h2)]
  exact fun g => ⟨groups_sub h1 h2 g, groups_sub h2 h1 g⟩
theorem groups_inj {ps : List (Fnd × FndM)} {gs : List (List Nat)} (h : IsGroups ps gs) {g g' : List Nat} (hg : g ∈ gs) (hg' : g' ∈ gs) (e : (repOf (ps.map (·.1)) g).kind = (repOf (ps.map (·.1)) g').kind ∧ (repOf (ps.map (·.1)) g).sites = (repOf (ps.map (·.1)) g').sites) : g = g' := by
  obtain ⟨z, hz⟩ := List.exists_mem_of_ne_nil g (h.1 g hg).1
  obtain ⟨z', hz'⟩ := List.exists_mem_of_ne_nil g' (h.1 g' hg').1
  have hl := IsGroupsTo.lt (k := ps.length) h
  have e1 := repOf_key (h.1 g hg).1 (h.1 g hg).2 (hl g hg) hz
  have e2 := repOf_key (h.1 g' hg').1 (h.1 g' hg').2 (hl g' hg') hz'
  rw [e.1, e.2, ← e2] at e1
  obtain ⟨i, hi, rfl⟩ := List.getElem_of_mem hg
  obtain ⟨j, hj, rfl⟩ := List.getElem_of_mem hg'
  have hp := List.pairwise_iff_getElem.1 h.2.2.1
  rcases Nat.lt_trichotomy i j with h | h | h
  · exact absurd e1 (hp i j hi hj h z hz z' hz')
  · subst h; rfl
  · exact absurd e1.symm (hp j i hj hi h z' hz' z hz)
/-- Reports of one key are one. -/
theorem reports_inj {ps : List (Fnd × FndM)} {gs : List (List Nat)} (h : IsGroups ps gs) {a b : Rep} (ha : a ∈ gs.map (repOf (ps.map (·.1)))) (hb : b ∈ gs.map (repOf (ps.map (·.1)))) (e : a.kind = b.kind ∧ a.sites = b.sites) : a = b := by
  obtain ⟨g, hg, rfl⟩ := List.mem_map.1 ha
  obtain ⟨g', hg', rfl⟩ := List.mem_map.1 hb
  rw [groups_inj h hg hg' e]
theorem sorted_perm_eq {α : Type} {R : α → α → Prop} {l m : List α} (hp : l.Perm m) (hl : l.Pairwise R) (hm : m.Pairwise R) (ha : ∀ a ∈ l, ∀ b ∈ l, R a b → R b a → a = b) : l = m := by
  induction l generalizing m with
  | nil => exact (List.nil_perm.1 hp).symm
  | cons x xs ih =>
    cases m with
    | nil => exact absurd hp.length_eq (by simp)
    | cons y ys =>
      obtain ⟨hx, hxs⟩ := List.pairwise_cons.1 hl
      obtain ⟨hy, hys⟩ := List.pairwise_cons.1 hm
      have e : x = y := by
        rcases List.mem_cons.1 (hp.mem_iff.1 (List.mem_cons_self)) with e | e
        · exact e
        · rcases List.mem_cons.1 (hp.mem_iff.2 (List.mem_cons_self (a := y))) with e2 | e2
          · exact e2.symm
          · exact ha x (by simp) y (by simp [e2]) (hx y e2) (hy x e)
      subst e
      rw [ih (List.Perm.cons_inv hp) hxs hys fun a h1 b h2 => ha a (by simp [h1]) b (by simp [h2])]
/-- The reports of findings are one list. -/
theorem reports_unique {ps : List (Fnd × FndM)} {rs qs : List Rep} (h1 : IsReports ps rs) (h2 : IsReports ps qs) : rs = qs := by
  obtain ⟨gs, a1, a2, a3⟩ := h1
  obtain ⟨hs, b1, b2, b3⟩ := h2
  have hp : rs.Perm qs := a1.trans (((groups_perm a3 b3).map _).trans b1.symm)
  refine sorted_perm_eq hp a2 b2 fun x hx y hy h3 h4 => ?_
  have e1 : ¬ cmpL y.rank x.rank < 0 := fun h => by rw [lessR_iff.2 h] at h3; cases h3
  have e2 : ¬ cmpL x.rank y.rank < 0 := fun h => by rw [lessR_iff.2 h] at h4; cases h4
  have h5 := cmpL_anti y.rank x.rank
  have h6 := cmpL_anti x.rank y.rank
  have h0 : cmpL x.rank y.rank = 0 := by omega
  rw [cmpL_eq] at h0
  unfold Rep.rank at h0
  injection h0 with _ h0
  injection h0 with h7 h8
  exact reports_inj a3 (a1.mem_iff.1 hx) (a1.mem_iff.1 hy) ⟨h7, h8⟩
end Go.Proofs.YtccpelfnkjckiaaDoor
