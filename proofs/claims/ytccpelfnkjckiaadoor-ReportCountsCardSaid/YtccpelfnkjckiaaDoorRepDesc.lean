/-
  PLAIN LAW: what each report says, whatever the order of the findings; two orders give the same reports but for Best.
-/
import Derived.Test.YtccpelfnkjckiaaDoorRepLaw
namespace Go.Proofs.YtccpelfnkjckiaaDoor

/-- The findings with a key that were found. -/
def withKey (fs : List Fnd) (k : List Int) : List Fnd := fs.filter fun f => f.found && decide (f.key = k)
def fnd0 : Fnd := ⟨0, 0, false, 0, []⟩
theorem idx_filter (fs : List Fnd) (p : Fnd → Bool) : ∀ k, k ≤ fs.length → ((List.range k).filter fun i => (fs[i]?).any p).map (fun i => (fs[i]?).getD fnd0) = (fs.take k).filter p := by
  intro k
  induction k with
  | zero => intro _; simp
  | succ k ih =>
    intro hk
    obtain ⟨f, hf⟩ : ∃ f, fs[k]? = some f := ⟨_, List.getElem?_eq_getElem (by omega)⟩
    rw [List.range_succ, List.filter_append, List.map_append, ih (by omega), take_succ_of hf, List.filter_append]
    congr 1
    by_cases hp : p f = true
    · simp [hf, hp]
    · simp [hf, hp]
theorem wk_perm {fs gs : List Fnd} (h : fs.Perm gs) (k : List Int) : (withKey fs k).Perm (withKey gs k) := h.filter _
theorem wk_mem {fs : List Fnd} {k : List Int} {f : Fnd} : f ∈ withKey fs k ↔ f ∈ fs ∧ f.found = true ∧ f.key = k := by
  unfold withKey; rw [List.mem_filter]; simp

theorem bestOf_spec (fs : List Fnd) : ∀ (G : List Nat) (b : Nat), bestOf fs b G ∈ b :: G ∧ ∀ i ∈ b :: G, wlOf fs (bestOf fs b G) ≤ wlOf fs i := by
  intro G
  induction G with
  | nil => intro b; exact ⟨by simp [bestOf], fun i hi => by rw [List.mem_singleton] at hi; subst hi; simp [bestOf]⟩
  | cons a t ih =>
    intro b
    have e : bestOf fs b (a :: t) = bestOf fs (if wlOf fs a < wlOf fs b then a else b) t := rfl
    obtain ⟨h1, h2⟩ := ih (if wlOf fs a < wlOf fs b then a else b)
    rw [← e] at h1 h2
    have h3 := h2 _ (List.mem_cons_self)
    refine ⟨?_, fun i hi => ?_⟩
    · rcases List.mem_cons.1 h1 with h | h
      · by_cases hc : wlOf fs a < wlOf fs b
        · rw [if_pos hc] at h; rw [h]; simp
        · rw [if_neg hc] at h; rw [h]; simp
      · exact List.mem_cons_of_mem _ (List.mem_cons_of_mem _ h)
    · rcases List.mem_cons.1 hi with rfl | hi
      · by_cases hc : wlOf fs a < wlOf fs i
        · rw [if_pos hc] at h3; omega
        · rw [if_neg hc] at h3; exact h3
      · rcases List.mem_cons.1 hi with rfl | hi
        · by_cases hc : wlOf fs i < wlOf fs b
          · rw [if_pos hc] at h3; exact h3
          · rw [if_neg hc] at h3; omega
        · exact h2 i (List.mem_cons_of_mem _ hi)

def Rep.key (r : Rep) : List Int := r.kind :: r.sites
/-- r is the report of the findings that have its key. -/
structure DescR (fs : List Fnd) (r : Rep) : Prop where
  ne : withKey fs r.key ≠ []
  asc : Asc r.starts
  mem : ∀ x, x ∈ r.starts ↔ x ∈ (withKey fs r.key).map Fnd.start
  count : r.count = (withKey fs r.key).length
  best : ∃ (b : Nat) (f : Fnd), fs[b]? = some f ∧ r.best = (b : Int) ∧ f ∈ withKey fs r.key ∧ (∀ g ∈ withKey fs r.key, f.wl ≤ g.wl) ∧ r.score = scoreOf r.kind r.starts.length f.wl

theorem group_eq {ps : List (Fnd × FndM)} {gs : List (List Nat)} (h : IsGroups ps gs) {g : List Nat} (hg : g ∈ gs) :
    g = (List.range ps.length).filter fun i => ((ps.map (·.1))[i]?).any fun f => f.found && decide (f.key = (repOf (ps.map (·.1)) g).key) := by
  have hl := IsGroupsTo.lt (k := ps.length) h
  obtain ⟨z, hz⟩ := List.exists_mem_of_ne_nil g (h.1 g hg).1
  have hkey : ∀ i ∈ g, keyI ps i = some (repOf (ps.map (·.1)) g).key := fun i hi => repOf_key (h.1 g hg).1 (h.1 g hg).2 (hl g hg) hi
  refine nat_asc_ext (h.2.2.2 g hg) (List.Pairwise.filter _ List.pairwise_lt_range) fun x => ?_
  rw [List.mem_filter, List.mem_range]
  constructor
  · intro hx
    have hxl := hl g hg x hx
    have hxf : x ∈ foundTo (ps.map (·.1)) ps.length := h.2.1.mem_iff.1 (List.mem_flatten.2 ⟨g, hg, hx⟩)
    unfold foundTo at hxf
    rw [List.mem_filter] at hxf
    have hk := hkey x hx
    obtain ⟨p, hp⟩ : ∃ p, ps[x]? = some p := ⟨_, List.getElem?_eq_getElem hxl⟩
    unfold keyI at hk
    have h2 := hxf.2
    rw [hp] at hk
    rw [List.getElem?_map, hp] at h2 ⊢
    simp only [Option.map_some, Option.any_some, Option.some.injEq] at h2 hk ⊢
    exact ⟨hxl, by simp [h2, hk]⟩
  · rintro ⟨hxl, h2⟩
    obtain ⟨p, hp⟩ : ∃ p, ps[x]? = some p := ⟨_, List.getElem?_eq_getElem hxl⟩
    rw [List.getElem?_map, hp] at h2
    simp only [Option.map_some, Option.any_some, Bool.and_eq_true, decide_eq_true_eq] at h2
    have hkx : keyI ps x = keyI ps z := by
      rw [hkey z hz]
      unfold keyI; rw [hp, ← h2.2]; rfl
    have hxf : x ∈ gs.flatten := h.2.1.mem_iff.2 (by
      unfold foundTo
      rw [List.mem_filter, List.mem_range, List.getElem?_map, hp]
      exact ⟨hxl, by simpa using h2.1⟩)
    obtain ⟨c, hc, hxc⟩ := List.mem_flatten.1 hxf
    have hgc : g = c := by
      obtain ⟨i, hi, rfl⟩ := List.getElem_of_mem hg
      obtain ⟨j, hj, rfl⟩ := List.getElem_of_mem hc
      have hp := List.pairwise_iff_getElem.1 h.2.2.1
      rcases Nat.lt_trichotomy i j with h | h | h
      · exact absurd hkx.symm (hp i j hi hj h z hz x hxc)
      · subst h; rfl
      · exact absurd hkx (hp j i hj hi h x hxc z hz)
    rw [hgc]; exact hxc
theorem group_fnds {ps : List (Fnd × FndM)} {gs : List (List Nat)} (h : IsGroups ps gs) {g : List Nat} (hg : g ∈ gs) :
    g.map (fun i => ((ps.map (·.1))[i]?).getD fnd0) = withKey (ps.map (·.1)) (repOf (ps.map (·.1)) g).key := by
  have e := idx_filter (ps.map (·.1)) (fun f => f.found && decide (f.key = (repOf (ps.map (·.1)) g).key)) ps.length (by simp)
  rw [← group_eq h hg] at e
  rw [e]
  unfold withKey
  rw [List.take_of_length_le (by simp)]

theorem descR {ps : List (Fnd × FndM)} {gs : List (List Nat)} (h : IsGroups ps gs) {g : List Nat} (hg : g ∈ gs) : DescR (ps.map (·.1)) (repOf (ps.map (·.1)) g) := by
  have hf := group_fnds h hg
  have hl := IsGroupsTo.lt (k := ps.length) h
  have hne := (h.1 g hg).1
  have hst : g.map (stOf (ps.map (·.1))) = (withKey (ps.map (·.1)) (repOf (ps.map (·.1)) g).key).map Fnd.start := by
    rw [← hf, List.map_map]
    refine List.map_congr_left fun i _ => ?_
    unfold stOf
    simp only [Function.comp]
    cases (ps.map (·.1))[i]? <;> rfl
  obtain ⟨c1, c2⟩ := compact_sort (g.map (stOf (ps.map (·.1))))
  refine ⟨?_, c1, fun x => ?_, ?_, ?_⟩
  · rw [← hf]; simpa using hne
  · rw [← hst]; exact c2 x
  · rw [← hf, List.length_map]; rfl
  · obtain ⟨a, t, rfl⟩ : ∃ a t, g = a :: t := by
      cases g with
      | nil => exact absurd rfl hne
      | cons a t => exact ⟨a, t, rfl⟩
    obtain ⟨b1, b2⟩ := bestOf_spec (ps.map (·.1)) (a :: t) a
    have hbm : bestOf (ps.map (·.1)) a (a :: t) ∈ a :: t := by
      rcases List.mem_cons.1 b1 with e | e
      · rw [e]; simp
      · exact e
    have hbl := hl _ hg _ hbm
    obtain ⟨p, hp⟩ : ∃ p, ps[bestOf (ps.map (·.1)) a (a :: t)]? = some p := ⟨_, List.getElem?_eq_getElem hbl⟩
    have hpf : (ps.map (·.1))[bestOf (ps.map (·.1)) a (a :: t)]? = some p.1 := by rw [List.getElem?_map, hp]; rfl
    have hwl : wlOf (ps.map (·.1)) (bestOf (ps.map (·.1)) a (a :: t)) = p.1.wl := by unfold wlOf; rw [hpf]; rfl
    refine ⟨_, p.1, hpf, rfl, ?_, fun q hq => ?_, ?_⟩
    · rw [← hf, List.mem_map]
      exact ⟨_, hbm, by rw [hpf]; rfl⟩
    · rw [← hf, List.mem_map] at hq
      obtain ⟨i, hi, rfl⟩ := hq
      have h3 := b2 i (List.mem_cons_of_mem _ hi)
      rw [hwl] at h3
      have hil := hl _ hg i hi
      obtain ⟨q, hq⟩ : ∃ q, ps[i]? = some q := ⟨_, List.getElem?_eq_getElem hil⟩
      unfold wlOf at h3
      rw [List.getElem?_map, hq] at h3 ⊢
      exact h3
    · show scoreOf _ _ ((wlOf (ps.map (·.1)) (bestOf (ps.map (·.1)) a (a :: t)) : Nat) : Int) = _
      rw [hwl]
      rfl

/-- What the reports of findings say. -/
structure AllDesc (fs : List Fnd) (rs : List Rep) : Prop where
  desc : ∀ r ∈ rs, DescR fs r
  keys : rs.Pairwise (fun a b => a.key ≠ b.key)
  all : ∀ f ∈ fs, f.found = true → ∃ r ∈ rs, r.key = f.key
  ord : rs.Pairwise (fun a b => lessR a b = true)
theorem lessR_total {a b : Rep} (h1 : lessR a b = false) (h2 : lessR b a = false) : a.key = b.key := by
  have e1 : ¬ cmpL a.rank b.rank < 0 := fun h => by rw [lessR_iff.2 h] at h1; cases h1
  have e2 : ¬ cmpL b.rank a.rank < 0 := fun h => by rw [lessR_iff.2 h] at h2; cases h2
  have h5 := cmpL_anti b.rank a.rank
  have h6 := cmpL_anti a.rank b.rank
  have h0 : cmpL a.rank b.rank = 0 := by omega
  rw [cmpL_eq] at h0
  unfold Rep.rank at h0
  injection h0 with _ h0
theorem allDesc {ps : List (Fnd × FndM)} {rs : List Rep} (h : IsReports ps rs) : AllDesc (ps.map (·.1)) rs := by
  obtain ⟨gs, h1, h2, h3⟩ := h
  have hk : rs.Pairwise (fun a b => a.key ≠ b.key) := by
    refine (h1.pairwise_iff (fun h e => h e.symm)).2 ?_
    rw [List.pairwise_map]
    refine List.Pairwise.imp_of_mem ?_ (groups_nodup h3)
    intro a b ha hb hab e
    refine hab (groups_inj h3 ha hb ?_)
    unfold Rep.key at e
    injection e with e1 e2
    exact ⟨e1, e2⟩
  refine ⟨fun r hr => ?_, hk, fun f hf hfd => ?_, ?_⟩
  · obtain ⟨g, hg, rfl⟩ := List.mem_map.1 (h1.mem_iff.1 hr)
    exact descR h3 hg
  · obtain ⟨p, hp, rfl⟩ := List.mem_map.1 hf
    obtain ⟨i, hi, rfl⟩ := List.getElem_of_mem hp
    have hif : i ∈ gs.flatten := h3.2.1.mem_iff.2 (by
      unfold foundTo
      rw [List.mem_filter, List.mem_range, List.getElem?_map, List.getElem?_eq_getElem hi]
      exact ⟨hi, by simpa using hfd⟩)
    obtain ⟨g, hg, hig⟩ := List.mem_flatten.1 hif
    refine ⟨_, h1.mem_iff.2 (List.mem_map.2 ⟨g, hg, rfl⟩), ?_⟩
    have e := repOf_key (h3.1 g hg).1 (h3.1 g hg).2 (IsGroupsTo.lt (k := ps.length) h3 g hg) hig
    unfold keyI at e
    rw [List.getElem?_eq_getElem hi] at e
    simp only [Option.map_some, Option.some.injEq] at e
    exact e.symm
  · have h4 := h2.and hk
    refine h4.imp fun {a b} hab => ?_
    cases e : lessR a b with
    | true => rfl
    | false => exact absurd (lessR_total e hab.1) hab.2

def Rep.noBest (r : Rep) : Rep := { r with best := 0 }
theorem desc_same {fs gs : List Fnd} (hp : fs.Perm gs) {a b : Rep} (ha : DescR fs a) (hb : DescR gs b) (e : a.key = b.key) : a.noBest = b.noBest := by
  have hw := wk_perm hp a.key
  have e0 := e
  unfold Rep.key at e0
  injection e0 with e1 e2
  have hst : a.starts = b.starts := asc_ext ha.asc hb.asc fun x => by
    rw [ha.mem, hb.mem, ← e]
    exact (hw.map _).mem_iff
  obtain ⟨_, f, _, _, f3, f4, f5⟩ := ha.best
  obtain ⟨_, q, _, _, q3, q4, q5⟩ := hb.best
  rw [← e] at q3 q4
  have w1 := f4 q (hw.mem_iff.2 q3)
  have w2 := q4 f (hw.mem_iff.1 f3)
  have hwl : f.wl = q.wl := by omega
  have hc : a.count = b.count := by rw [ha.count, hb.count, ← e, hw.length_eq]
  have hs : a.score = b.score := by rw [f5, q5, e1, hst, hwl]
  unfold Rep.noBest
  rw [e1, e2, hst, hc, hs]
theorem noBest_sub {fs gs : List Fnd} (hp : fs.Perm gs) {rs qs : List Rep} (h1 : AllDesc fs rs) (h2 : AllDesc gs qs) : ∀ r ∈ rs, ∃ q ∈ qs, r.noBest = q.noBest := by
  intro r hr
  have hd := h1.desc r hr
  obtain ⟨_, f, _, _, f3, _⟩ := hd.best
  obtain ⟨a1, a2, a3⟩ := wk_mem.1 f3
  obtain ⟨q, hq, hk⟩ := h2.all f (hp.mem_iff.1 a1) a2
  exact ⟨q, hq, desc_same hp hd (h2.desc q hq) (by rw [hk, a3])⟩
theorem noBest_nodup {fs : List Fnd} {rs : List Rep} (h : AllDesc fs rs) : (rs.map Rep.noBest).Nodup := by
  unfold List.Nodup
  rw [List.pairwise_map]
  refine h.keys.imp fun hab e => hab ?_
  have := congrArg Rep.key e
  exact this
theorem lessR_noBest (a b : Rep) : lessR a.noBest b.noBest = lessR a b := rfl
/-- Two orders of findings give the same reports, but for Best. -/
theorem reports_perm {fs gs : List Fnd} (hp : fs.Perm gs) {rs qs : List Rep} (h1 : AllDesc fs rs) (h2 : AllDesc gs qs) : rs.map Rep.noBest = qs.map Rep.noBest := by
  have hm : (rs.map Rep.noBest).Perm (qs.map Rep.noBest) := by
    rw [List.perm_ext_iff_of_nodup (noBest_nodup h1) (noBest_nodup h2)]
    intro x
    constructor
    · intro hx
      obtain ⟨r, hr, rfl⟩ := List.mem_map.1 hx
      obtain ⟨q, hq, e⟩ := noBest_sub hp h1 h2 r hr
      exact List.mem_map.2 ⟨q, hq, e.symm⟩
    · intro hx
      obtain ⟨r, hr, rfl⟩ := List.mem_map.1 hx
      obtain ⟨q, hq, e⟩ := noBest_sub hp.symm h2 h1 r hr
      exact List.mem_map.2 ⟨q, hq, e.symm⟩
  have hs : ∀ {gs : List Fnd} {l : List Rep}, AllDesc gs l → (l.map Rep.noBest).Pairwise (fun a b => lessR a b = true) := fun h => by
    rw [List.pairwise_map]
    exact h.ord.imp fun hab => by rw [lessR_noBest]; exact hab
  refine sorted_perm_eq hm (hs h1) (hs h2) fun a _ b _ h3 h4 => ?_
  have e1 := lessR_iff.1 h3
  have e2 := lessR_iff.1 h4
  have h5 := cmpL_anti a.rank b.rank
  omega
theorem sum_mul_le {α : Type} (l : List α) (f : α → Nat) (B : Nat) (h : ∀ x ∈ l, f x ≤ B) : (l.map f).sum ≤ l.length * B := by
  induction l with
  | nil => simp
  | cons a t ih =>
    have h1 := h a (by simp)
    have h2 := ih fun x hx => h x (by simp [hx])
    rw [List.map_cons, List.sum_cons, List.length_cons, Nat.succ_mul]
    omega
/-- Reports of few findings are few and small. -/
theorem reports_small {ps : List (Fnd × FndM)} {rs : List Rep} {B : Nat} (h : IsReports ps rs) (hB : ∀ q ∈ ps, q.1.sites.length ≤ B) : rs.length ≤ ps.length ∧ ∀ r ∈ rs, r.sites.length ≤ B := by
  have hd := allDesc h
  obtain ⟨gs, h1, h2, h3⟩ := h
  constructor
  · have e1 : rs.length = gs.length := by rw [h1.length_eq, List.length_map]
    have e2 : gs.flatten.length ≤ ps.length := by rw [h3.2.1.length_eq]; exact foundTo_len _ _
    have e3 : gs.length ≤ gs.flatten.length := by
      have : ∀ g ∈ gs, 1 ≤ g.length := fun g hg => by
        have := (h3.1 g hg).1
        cases g with
        | nil => exact absurd rfl this
        | cons a t => simp
      clear h1 h3 e1 e2
      induction gs with
      | nil => simp
      | cons a t ih =>
        have h4 := ih fun g hg => this g (by simp [hg])
        have h5 := this a (by simp)
        rw [List.flatten_cons, List.length_append, List.length_cons]; omega
    omega
  · intro r hr
    obtain ⟨_, f, _, _, f3, _⟩ := (hd.desc r hr).best
    obtain ⟨a1, a2, a3⟩ := wk_mem.1 f3
    obtain ⟨q, hq, rfl⟩ := List.mem_map.1 a1
    unfold Fnd.key Rep.key at a3
    injection a3 with _ a4
    rw [← a4]; exact hB q hq

end Go.Proofs.YtccpelfnkjckiaaDoor
