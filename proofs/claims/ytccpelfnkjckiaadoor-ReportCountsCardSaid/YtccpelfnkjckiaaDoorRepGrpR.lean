/-
  WALK: interleaveref39.Group.
-/
import Derived.Test.YtccpelfnkjckiaaDoorRepRG
import Derived.Test.YtccpelfnkjckiaaDoorSame
import Derived.Shelf.SlSortCmp.QuietGrown
import Derived.StillTailTactics
import Derived.Deep.RegionHeld3
import Derived.Deep.RegionLaw
import Derived.RegionTactic
import Derived.Deep.CutBlock
namespace Go.Proofs.YtccpelfnkjckiaaDoor
open Go.RowKit Go.Sort

theorem gs_len {ps : List (Fnd × FndM)} {k : Nat} {gs : List (List Nat)} (h : IsGroupsTo ps k gs) : gs.length ≤ k ∧ ∀ g ∈ gs, g.length ≤ k := by
  have h1 : gs.flatten.length ≤ k := by rw [h.2.1.length_eq]; exact foundTo_len _ _
  refine ⟨Nat.le_trans ?_ h1, fun g hg => Nat.le_trans ?_ h1⟩
  · have h2 : ∀ g ∈ gs, g ≠ [] := fun g hg => (h.1 g hg).1
    clear h h1
    induction gs with
    | nil => simp
    | cons a t ih =>
      have h3 := h2 a (by simp)
      have h4 := ih fun g hg => h2 g (by simp [hg])
      have h5 : 0 < a.length := (by cases a with | nil => exact absurd rfl h3 | cons x r => simp)
      simp only [List.length_cons, List.flatten_cons, List.length_append]
      omega
  · exact (List.sublist_flatten_of_mem hg).length_le
def RGrpRet (w : World) (ps : List (Fnd × FndM)) (e : Ending) (w' : World) : Prop :=
  ∃ v qs, e = .returned v ∧ RepsQ w' v qs ∧ IsReports ps (qs.map (·.1)) ∧ Below w.heap.size w w'
/-- The list qs has the report of each group, ahead of its score. -/
def PreOf (ps : List (Fnd × FndM)) (gs : List (List Nat)) (qs : List (Rep × Value × Value)) : Prop := qs.map (·.1) = gs.map (preOf (ps.map (·.1)))
theorem PreOf.len {ps : List (Fnd × FndM)} {gs : List (List Nat)} {qs : List (Rep × Value × Value)} (h : PreOf ps gs qs) : qs.length = gs.length := by have := congrArg List.length h; simpa using this
theorem PreOf.at_ {ps : List (Fnd × FndM)} {gs : List (List Nat)} {qs : List (Rep × Value × Value)} (h : PreOf ps gs qs) {j : Nat} {q : Rep × Value × Value} (hj : qs[j]? = some q) : ∃ g, gs[j]? = some g ∧ q.1 = preOf (ps.map (·.1)) g := by
  have h1 := congrArg (fun l => l[j]?) h
  simp only [List.getElem?_map, hj, Option.map_some] at h1
  cases hg : gs[j]? with
  | none => rw [hg] at h1; simp at h1
  | some g => rw [hg] at h1; exact ⟨g, rfl, by simpa using h1⟩
theorem PreOf.set {ps : List (Fnd × FndM)} {gs : List (List Nat)} {qs : List (Rep × Value × Value)} (h : PreOf ps gs qs) (m : Nat) {q : Rep × Value × Value} {g : List Nat} (e : q.1 = preOf (ps.map (·.1)) g) : PreOf ps (gs.set m g) (qs.set m q) := by
  unfold PreOf at *
  rw [List.map_set, List.map_set, h, e]
theorem PreOf.snoc {ps : List (Fnd × FndM)} {gs : List (List Nat)} {qs : List (Rep × Value × Value)} (h : PreOf ps gs qs) {q : Rep × Value × Value} {g : List Nat} (e : q.1 = preOf (ps.map (·.1)) g) : PreOf ps (gs ++ [g]) (qs ++ [q]) := by
  unfold PreOf at *
  rw [List.map_append, List.map_append, h, List.map_singleton, List.map_singleton, e]
theorem pre_key {ps : List (Fnd × FndM)} {k : Nat} {gs : List (List Nat)} (h : IsGroupsTo ps k gs) (hk : k ≤ ps.length) {g : List Nat} (hg : g ∈ gs) : ∀ i ∈ g, keyI ps i = some ((preOf (ps.map (·.1)) g).kind :: (preOf (ps.map (·.1)) g).sites) := fun _ hi =>
  repOf_key (h.1 g hg).1 (h.1 g hg).2 (fun j hj => Nat.lt_of_lt_of_le (h.lt g hg j hj) hk) hi
theorem key_at {ps : List (Fnd × FndM)} {k : Nat} {p : Fnd × FndM} (h : ps[k]? = some p) : keyI ps k = some (p.1.kind :: p.1.sites) := by unfold keyI; rw [h]; rfl
/-- Behind the search: the report of the finding p lies at place j. -/
def Mid (w : World) (ps : List (Fnd × FndM)) (k : Nat) (p : Fnd) (pm : FndM) (fb j : Nat) (v : Value) (wx : World) : Prop :=
  ∃ (g NL co : Nat) (QS : List (Rep × Value × Value)) (r : Rep) (A1 : Option Addr) (c1 : Nat) (A2 : Option Addr) (c2 bt : Nat), v = .slice (some ⟨g, 0, none⟩) NL co ∧ RG w wx (.slice (some ⟨g, 0, none⟩) NL co) QS ∧ NL = QS.length ∧
    QS[j]? = some (r, .slice A1 r.sites.length c1, .slice A2 r.starts.length c2) ∧ r.best = (bt : Int) ∧ bt < ps.length ∧ (0 ≤ r.count ∧ r.count ≤ k) ∧ r.starts.length ≤ k ∧ NL ≤ k + 1 ∧ NL ≤ co ∧ co ≤ maxLen ∧
    Blk wx fb 58 #[.int .i64 p.start, .int .i64 p.kind, .int .i64 pm.a, .int .i64 pm.b, .int .i64 pm.c, .int .i64 pm.d, .slice pm.cA pm.cn pm.cc, .bool true, .slice pm.wA p.wl pm.wc, .slice pm.pA pm.pn pm.pc, .int .i64 pm.r, .slice pm.sA p.sites.length pm.sc] ∧ ∀ q' : Rep × Value × Value, q'.1 = updR (ps.map (·.1)) r k bt → ∃ gs', IsGroupsTo ps (k + 1) gs' ∧ PreOf ps gs' (QS.set j q')
theorem best_mem (fs : List Fnd) (b0 : Nat) (G : List Nat) : bestOf fs b0 G ∈ b0 :: G := by
  unfold bestOf
  induction G generalizing b0 with
  | nil => simp
  | cons a t ih =>
    rw [List.foldl_cons]
    have h := ih (if ((fs[a]?).map Fnd.wl).getD 0 < ((fs[b0]?).map Fnd.wl).getD 0 then a else b0)
    rcases List.mem_cons.1 h with h | h
    · rw [h]; split <;> simp
    · exact List.mem_cons_of_mem _ (List.mem_cons_of_mem _ h)
theorem IntsO.nil (w : World) (P : Nat → Prop) : IntsO w P (.slice none 0 0) [] := ⟨none, 0, rfl, by simp, by simp [maxLen], by simp, fun h => by simp at h⟩
/-- The sites that were copied lie in a new block. -/
theorem IntsO.own5 {w0 wc w5 : World} {B n c : Nat} {v u u' : Value} {xs : List Int} {e : TypeId} {ys : List Value} (ho : w5.ownsRow wc.heap.size 3 1 v n (xs.map (Value.int .i64))) (hi : Ints w0 u' xs) (hq : wc.ownsRow B e 6 u c ys) (hB : B ≤ wc.heap.size) (hn : n = xs.length) : IntsO w5 (fun b => B ≤ b ∧ some b ≠ u.ownBlock) v xs := by
  subst hn
  have hx : ∀ x ∈ xs, I64 x := by obtain ⟨_, _, _, _, _, h, _⟩ := hi; exact h
  have h : Own w5 wc.heap.size v xs := ⟨ho, hx⟩
  exact h.intsO fun b h1 _ _ => ⟨by omega, fun e => by have := (hq.lt b e.symm).2; omega⟩
/-- append onto a row of the call's own out of a slice that is read, as one step of a region that draws its order. -/
theorem step_append_rdR {P : Program} {ops : Array Oper} {o : Oper} {a : Act} {w : World} {K : Act → World → Prop} {Q : Exit → Act → World → Prop} {E : Prop} (hgd : o.guard = none) (s x : Operand) (t : TypeId)
    (ho : o.op = .call { callee := .builtin .append, args := #[s, x], argTypes := #[t, t] })
    (base : Nat) (e : TypeId) (i : TypeInfo) (z : Value) (size bytes : Nat) (ht : P.underlying t = some (.slice e)) (hi : P.info? e = some i) (hz : i.zero = some z)
    (hsize : i.size = size) (hby : i.bytes = bytes) (hzs : z.cells.size = size) (hsz : 0 < size)
    (v : Value) (n : Nat) (xs : List Value) (hs : a.eval s = v) (hown : w.ownsRow base e size v n xs)
    (A : Option Addr) (m c : Nat) (news : List Value) (hx : a.eval x = .slice A m c) (hl : news.length = m * size) (hr : Rd w A news) (h1 : ∀ u ∈ news, u.oneCell' = true)
    (h63 : n + m ≤ maxLen) (hbytes : (n + m) * bytes ≤ 140737488355328) (hbase : base ≤ w.heap.size)
    (h : ∀ v' w', w'.ownsRow base e size v' (n + m) (xs ++ news) → w.grownBy w' v.ownBlock → (v'.ownBlock = v.ownBlock ∨ v'.ownBlock = some w.heap.size) → K (a.put o.dst v') w') :
    if Region.wanted o (yielded ops a.tmps) = true then Oper.wp P o a w K Q else E := by
  have hw : Region.wanted o (yielded ops a.tmps) = true := by simp [Region.wanted, hgd]
  rw [if_pos hw]
  obtain ⟨v', w', hr, h2, h3, h4⟩ := run_append_rd (P := P) w base t o.type e i z size bytes ht hi hz hsize hby hzs hsz v n xs hown A m c news hl hr h1 h63 hbytes hbase
  unfold Oper.wp execOp
  simp only [ho, resolve, invoke, builtin, Sem.run_bind, Sem.run_pure, Result.andThen_ok, List.map_toArray, List.map_cons, List.map_nil, hs, hx, hr]
  exact h v' w' h2 h3 h4
theorem blk_ne_own {W : World} {fb g n cap base k : Nat} {t e : TypeId} {cs : Array Value} {xs : List Value} (hb : Blk W fb t cs) (ho : W.ownsRow base e k (.slice (some ⟨g, 0, none⟩) n cap) n xs) (ht : t ≠ e) : fb ≠ g := by
  rintro rfl
  rcases ho.2 with ⟨h0, _⟩ | ⟨g', cap', cur, hv, _, hh, _⟩
  · cases h0
  · cases hv
    unfold Blk at hb
    rw [hb] at hh
    injection hh with hh
    injection hh with _ h2 _
    exact ht h2
theorem blk7 {w5 w7 : World} {o : Obj} {fb base n : Nat} {v : Value} {cs : Array Value} {xs : List Value} (hb : Blk w5 fb 58 cs) (ho : w5.ownsRow base 61 6 v n xs) (hg : (w5.alloc o).grownBy w7 v.ownBlock) : Blk w7 fb 58 cs := by
  refine (hb.alloc o).grown hg fun e => ?_
  rcases owns_shape ho with ⟨rfl, -, -⟩ | ⟨g, cap, rfl⟩
  · cases e
  · injection e with e
    exact blk_ne_own hb ho (by decide) e
theorem owns_some {w : World} {base n k : Nat} {e : TypeId} {v : Value} {xs : List Value} (hn : 0 < n) (h : w.ownsRow base e k v n xs) : ∃ g c, v = .slice (some ⟨g, 0, none⟩) n c := by
  rcases owns_shape h with ⟨-, h1, -⟩ | h1
  · omega
  · exact h1
theorem set_off {w : World} {b i j : Nat} {u v : Value} (h : w.cell? ⟨b, i, none⟩ = some u) (hij : j ≠ i) : (w.setCell ⟨b, j, none⟩ v).drew.cell? ⟨b, i, none⟩ = some u := by
  show (w.setCell ⟨b, j, none⟩ v).cell? ⟨b, i, none⟩ = some u
  exact (World.cell?_setCell_other (w := w) (a := ⟨b, j, none⟩) (b := ⟨b, i, none⟩) (v := v) (h := by intro e; injection e with _ e2 _; exact hij e2)).trans h
theorem set_blk {w : World} {b c i j : Nat} {u v : Value} (h : w.cell? ⟨b, i, none⟩ = some u) (hne : c ≠ b) : (w.setCell ⟨c, j, none⟩ v).drew.cell? ⟨b, i, none⟩ = some u := by
  show (w.setCell ⟨c, j, none⟩ v).cell? ⟨b, i, none⟩ = some u
  exact (World.cell?_setCell_other (w := w) (a := ⟨c, j, none⟩) (b := ⟨b, i, none⟩) (v := v) (h := by intro e; injection e with e2 _ _; exact hne e2)).trans h
theorem cut_fromR6 (A : Option Addr) (n c k : Nat) (hk : k ≤ n) (hn : n ≤ c) :
    ∃ dp, (∀ w, (Instr.slice 48 (.slice A n c) (some (.int .i64 (k : Int))) none none).run Tryd.prog w = .ok (.slice dp (n - k) (c - k)) w) ∧ (k < n → dp = A.map fun a => a.add (k * 6)) := by
  refine ⟨if c = k then A else A.map fun a => a.add (k * 6), fun w => ?_, fun h => by rw [if_neg (by omega)]⟩
  rw [run_slice_l (P := Tryd.prog) (w := w) 48 _ n c (by kernel_rfl) .i64 (k : Int) (by omega) (by omega), show (sizeOf (Tryd.prog.elem 48)).run Tryd.prog w = .ok 6 w by kernel_rfl]
  simp only [Result.andThen, sliced, Int.toNat_natCast]
theorem cut_toR6 (A : Option Addr) (n c k : Nat) (hk : k ≤ c) (w : World) : (Instr.slice 48 (.slice A n c) none (some (.int .i64 (k : Int))) (some (.int .i64 (k : Int)))).run Tryd.prog w = .ok (.slice A k k) w := by
  rw [run_slice_hm (P := Tryd.prog) (w := w) 48 _ n c (by kernel_rfl) .i64 .i64 (k : Int) (k : Int) (by omega) (by omega) (by omega), show (sizeOf (Tryd.prog.elem 48)).run Tryd.prog w = .ok 6 w by kernel_rfl]
  cases A <;> simp only [Result.andThen, sliced, Int.toNat_natCast, Nat.zero_mul, Option.map_some, Option.map_none, addr_zero, Nat.sub_zero, ite_self]
theorem ones_rep {w : World} {qs : List (Rep × Value × Value)} (h : ∀ q ∈ qs, Ints w q.2.1 q.1.sites ∧ Ints w q.2.2 q.1.starts ∧ q.1.ok) : ∀ u ∈ qs.flatMap Rep.cells, u.oneCell' = true := by
  intro u hu
  obtain ⟨q, hq, hu⟩ := List.mem_flatMap.1 hu
  obtain ⟨⟨_, _, e1, _⟩, ⟨_, _, e2, _⟩, _⟩ := h q hq
  unfold Rep.cells at hu
  rw [e1, e2] at hu
  exact six_one _ _ _ _ _ _ _ _ _ _ u hu
theorem flat_len6 (qs : List (Rep × Value × Value)) : (qs.flatMap Rep.cells).length = qs.length * 6 := by
  induction qs with
  | nil => rfl
  | cons a t ih => rw [List.flatMap_cons, List.length_append, ih, show (Rep.cells a).length = 6 from rfl, List.length_cons]; omega

theorem flat_take6 (qs : List (Rep × Value × Value)) (k : Nat) : (qs.take k).flatMap Rep.cells = (qs.flatMap Rep.cells).take (k * 6) := by
  induction k generalizing qs with
  | zero => simp
  | succ k ih =>
    cases qs with
    | nil => simp
    | cons a t =>
      rw [List.take_succ_cons, List.flatMap_cons, ih, List.flatMap_cons, show (k + 1) * 6 = (Rep.cells a).length + k * 6 by rw [show (Rep.cells a).length = 6 from rfl]; omega, List.take_length_add_append]
theorem flat_drop6 (qs : List (Rep × Value × Value)) (k : Nat) : (qs.drop k).flatMap Rep.cells = (qs.flatMap Rep.cells).drop (k * 6) := by
  induction k generalizing qs with
  | zero => simp
  | succ k ih =>
    cases qs with
    | nil => simp
    | cons a t =>
      rw [List.drop_succ_cons, ih, List.flatMap_cons, show (k + 1) * 6 = (Rep.cells a).length + k * 6 by rw [show (Rep.cells a).length = 6 from rfl]; omega, List.drop_append]
      simp

set_option maxRecDepth 100000 in
set_option maxHeartbeats 8000000 in
theorem rgroup_any (ps : List (Fnd × FndM)) (A : Option Addr) (c : Nat) (w : World) (hr : Rd w A (ps.flatMap Fnd.cells)) (hok : ∀ q ∈ ps, FndOk w q) (hps : ps.length ≤ 1000000) (hss : ∀ q ∈ ps, q.1.sites.length ≤ 1000000) :
    Calls Tryd.prog 22 #[.slice A ps.length c] w (RGrpRet w ps) := by
  have HR := Lib.hid hr
  have HOK := Lib.hid hok
  have HSS := Lib.hid hss
  clear hr hok hss
  obtain ⟨iI, hiI, hzI0, hzI1, hzI2⟩ := info_parts info_int
  obtain ⟨iR, hiR, hzR0, hzR1, hzR2⟩ := info_parts info_rep
  have mixed : Tryd.prog.follows .mixedOrders = true := by kernel_rfl
  go_enter Tryd.func22, Tryd.ntmps22
  go_wp2_with fail
  go_loopw [3, 16] (fun ov kv wr => ∃ (k : Nat) (gs : List (List Nat)) (qs : List (Rep × Value × Value)), k ≤ ps.length ∧ kv = .int .i64 k ∧ Hid (RG w wr ov qs) ∧ Hid (IsGroupsTo ps k gs) ∧ Hid (PreOf ps gs qs)) (fun _ kv _ => ps.length - (intOf kv).toNat)
  case atStart => exact ⟨0, [], [], by omega, rfl, Lib.hid (RG.start w), Lib.hid ⟨by simp, by simp [foundTo], by simp, by simp⟩, Lib.hid rfl⟩
  case round =>
    obtain ⟨k, gs, qs, hk, rfl, HST, HGS, HPR⟩ := hrel
    obtain ⟨Ao, co, hov, hoc1, hoc2, -⟩ := owns_rd HST.out.out.1
    subst hov
    have HQL : Hid (qs.length ≤ k) := Lib.hid (by rw [HPR.out.len]; exact (gs_len HGS.out).1)
    have hql := HQL.out
    unfold maxLen at hoc2
    by_cases hlt : k < ps.length
    · obtain ⟨p, hp⟩ : ∃ q, ps[k]? = some q := ⟨_, List.getElem?_eq_getElem hlt⟩
      obtain ⟨b, off, rfl, hbl, hci⟩ := Fnds.at_ (HR.out.keep HST.out.bl) hp
      have HPP := Lib.hid hp
      have HOP := Lib.hid (HOK.out p (List.mem_of_getElem? hp))
      have HSP := Lib.hid (HSS.out p (List.mem_of_getElem? hp))
      obtain ⟨p, pm⟩ := p
      obtain ⟨k0, k1, k2, k3, k4, k5, k6, k7, k8, k9, k10, k11⟩ := hci
      simp only at k0 k1 k2 k3 k4 k5 k6 k7 k8 k9 k10 k11 HOP HSP
      have li : (k : Int) < ps.length := by omega
      have hpl : ps.length ≤ 1000000 := hps
      clear hp
      cases hf : p.found with
      | false =>
        rw [hf] at k7
        have HG2 : Hid (IsGroupsTo ps (k + 1) gs) := Lib.hid (HGS.out.skip HPP.out hf)
        clear hf
        go_wp2_with fail
        go_roundw
        case rel => exact ⟨k + 1, gs, qs, by omega, by go_num, Lib.hid (HST.out.keep ((Below.refl _ _).alloc (Nat.le_refl _) _)), HG2, HPR⟩
        case measure => simp [intOf]; omega
      | true =>
        rw [hf] at k7
        have HF := Lib.hid hf
        clear hf
        go_upto_block 2 with fail
        obtain ⟨wo, hwo⟩ : ∃ wo : World, wo = wr.alloc (.cells #[.int .i64 p.start, .int .i64 p.kind, .int .i64 pm.a, .int .i64 pm.b, .int .i64 pm.c, .int .i64 pm.d, .slice pm.cA pm.cn pm.cc, .bool true, .slice pm.wA p.wl pm.wc, .slice pm.pA pm.pn pm.pc, .int .i64 pm.r, .slice pm.sA p.sites.length pm.sc] 58) := ⟨_, rfl⟩
        have HST1 : Hid (RG w wo (.slice Ao qs.length co) qs) := by rw [hwo]; exact Lib.hid (HST.out.keep ((Below.refl _ _).alloc (Nat.le_refl _) _))
        have HFBo : Hid (Blk wo wr.heap.size 58 #[.int .i64 p.start, .int .i64 p.kind, .int .i64 pm.a, .int .i64 pm.b, .int .i64 pm.c, .int .i64 pm.d, .slice pm.cA pm.cn pm.cc, .bool true, .slice pm.wA p.wl pm.wc, .slice pm.pA pm.pn pm.pc, .int .i64 pm.r, .slice pm.sA p.sites.length pm.sc]) := by rw [hwo]; exact Lib.hid (Blk.new _ _ _)
        rw [← hwo]
        clear hwo HST hbl k0 k1 k2 k3 k4 k5 k6 k7 k8 k9 k10 k11
        generalize wr.heap.size = fb at HFBo ⊢
        go_cut [6] from 17 to 109 (fun jv wx => ∃ j n : Nat, j ≤ qs.length ∧ jv = .int .i64 j ∧ Hid (wx = wo.drewN n) ∧ Hid (∀ i q, i < j → qs[i]? = some q → ¬ (q.1.kind = p.kind ∧ q.1.sites = p.sites)) ∧ Hid (∀ q, qs[j]? = some q → q.1.kind = p.kind ∧ q.1.sites = p.sites))
        case first =>
          go_wp2_with fail
          go_loopw [6] (fun jv wx => ∃ j n : Nat, j ≤ qs.length ∧ jv = .int .i64 j ∧ Hid (∀ i q, i < j → qs[i]? = some q → ¬ (q.1.kind = p.kind ∧ q.1.sites = p.sites)) ∧ Hid (wx = wo.drewN n)) (fun jv _ => qs.length - (intOf jv).toNat)
          case atStart => exact ⟨0, 0, by omega, rfl, Lib.hid (fun i q hi => by omega), Lib.hid rfl⟩
          case round =>
            obtain ⟨j, n, hj, rfl, HNE, HDR⟩ := hrel
            have HWB : Hid (Below wo.heap.size wo wr) := by rw [HDR.out]; exact Lib.hid (bdrew (Below.refl _ _) n)
            have HSTx : Hid (RG w wr (.slice Ao qs.length co) qs) := Lib.hid (HST1.out.keep HWB.out)
            have HFB : Hid (Blk wr fb 58 #[.int .i64 p.start, .int .i64 p.kind, .int .i64 pm.a, .int .i64 pm.b, .int .i64 pm.c, .int .i64 pm.d, .slice pm.cA pm.cn pm.cc, .bool true, .slice pm.wA p.wl pm.wc, .slice pm.pA pm.pn pm.pc, .int .i64 pm.r, .slice pm.sA p.sites.length pm.sc]) := Lib.hid (HFBo.out.keep HWB.out)
            have HDN : Hid (∀ N, wr.drewN N = wo.drewN (n + N)) := Lib.hid fun N => by rw [HDR.out, World.drewN_drewN]
            have f1 := HFB.out.cell 1
            have f11 := HFB.out.cell 11
            simp only [List.getElem?_toArray, List.getElem?_cons_zero, List.getElem?_cons_succ] at f1 f11
            by_cases hjl : j < qs.length
            · obtain ⟨q, hq⟩ : ∃ q, qs[j]? = some q := ⟨_, List.getElem?_eq_getElem hjl⟩
              obtain ⟨g, hAg⟩ : ∃ g, Ao = some ⟨g, 0, none⟩ := by
                rcases owns_shape HSTx.out.out.1 with ⟨-, h1, -⟩ | ⟨g, cap, h1⟩
                · omega
                · injection h1 with h1 _ _; exact ⟨g, h1⟩
              subst hAg
              obtain ⟨hgl, hcq, hi1, hi2, hrok⟩ := HSTx.out.at_ rfl hq
              have HQQ := Lib.hid hq
              obtain ⟨r, sv, tv⟩ := q
              have hi1' := hi1.ints
              have hi2' := hi2.ints
              obtain ⟨A1, c1, hsv, -, -, -, -⟩ := hi1'
              obtain ⟨A2, c2, htv, -, -, -, -⟩ := hi2'
              simp only at hsv htv
              subst hsv htv
              obtain ⟨e0, e1, -, -, -, -⟩ := hcq
              simp only at e0 e1
              have HI1 := Lib.hid hi1.ints
              have lj : (j : Int) < qs.length := by omega
              have d1 : decide (j < qs.length) = true := by simpa using hjl
              clear hq hi1 hi2 hrok
              by_cases hkk : r.kind = p.kind
              · have hkb : (r.kind != p.kind) = false := by simpa using hkk
                by_cases hks : r.sites = p.sites
                · have HSM : Hid (∀ N, Calls Tryd.prog 28 #[.slice A1 r.sites.length c1, .slice pm.sA p.sites.length pm.sc] (wr.drewN N) fun e w' => e = .returned (.bool true) ∧ ∃ m, w' = (wr.drewN N).drewN m) := Lib.hid (fun N => by
                    refine (same_any _ _ r.sites p.sites _ (HI1.out.keep (bdrew (Below.refl _ _) N)) (HOP.out.1.keep (HSTx.out.bl.trans ((bdrew (Below.refl _ _) N).mono HSTx.out.bl.size)))).mono ?_
                    rintro e w' ⟨rfl, h⟩
                    exact ⟨by rw [decide_eq_true hks], h⟩)
                  have HKK := Lib.hid (And.intro hkk hks)
                  clear hkk hks
                  go_wp2_with fail
                  go_quiet ((go_at_call 28; exact Calls.quiet_of (HSM.out _)))
                  have HMT : Hid (∀ x, qs[j]? = some x → x.1.kind = p.kind ∧ x.1.sites = p.sites) := Lib.hid (fun x hx => by rw [HQQ.out] at hx; injection hx with hx; subst hx; exact HKK.out)
                  go_wp2_with fail
                  go_meet
                  exact ⟨j, n + nq, hj, rfl, Lib.hid (HDN.out nq), HNE, HMT⟩
                · have HSM : Hid (∀ N, Calls Tryd.prog 28 #[.slice A1 r.sites.length c1, .slice pm.sA p.sites.length pm.sc] (wr.drewN N) fun e w' => e = .returned (.bool false) ∧ ∃ m, w' = (wr.drewN N).drewN m) := Lib.hid (fun N => by
                    refine (same_any _ _ r.sites p.sites _ (HI1.out.keep (bdrew (Below.refl _ _) N)) (HOP.out.1.keep (HSTx.out.bl.trans ((bdrew (Below.refl _ _) N).mono HSTx.out.bl.size)))).mono ?_
                    rintro e w' ⟨rfl, h⟩
                    exact ⟨by rw [decide_eq_false hks], h⟩)
                  have HKS := Lib.hid hks
                  clear hkk hks
                  go_wp2_with fail
                  go_quiet ((go_at_call 28; exact Calls.quiet_of (HSM.out _)))
                  go_wp2_with fail
                  go_roundw
                  case rel => exact ⟨j + 1, _, by omega, by go_num, Lib.hid (fun i x hi hx => by
                    by_cases e : i = j
                    · subst e; rw [HQQ.out] at hx; injection hx with hx; subst hx; exact fun h => HKS.out h.2
                    · exact HNE.out i x (by omega) hx), Lib.hid (HDN.out _)⟩
                  case measure => simp [intOf]; omega
              · have hkb : (r.kind != p.kind) = true := by simpa using hkk
                have HKS := Lib.hid hkk
                clear hkk
                go_wp2_with fail
                go_quiet (fail)
                go_wp2_with fail
                go_roundw
                case rel => exact ⟨j + 1, _, by omega, by go_num, Lib.hid (fun i x hi hx => by
                  by_cases e : i = j
                  · subst e; rw [HQQ.out] at hx; injection hx with hx; subst hx; exact fun h => HKS.out h.1
                  · exact HNE.out i x (by omega) hx), Lib.hid (HDN.out _)⟩
                case measure => simp [intOf]; omega
            · have hje : j = qs.length := by omega
              have d1 : decide (j < qs.length) = false := by simpa using hjl
              have HJE := Lib.hid hje
              clear hje
              go_wp2_with fail
              go_quiet (fail)
              have HMT : Hid (∀ x, qs[j]? = some x → x.1.kind = p.kind ∧ x.1.sites = p.sites) := Lib.hid (fun x hx => by rw [HJE.out, List.getElem?_eq_none (Nat.le_refl _)] at hx; cases hx)
              go_wp2_with fail
              go_meet
              exact ⟨j, n + nq, hj, rfl, Lib.hid (HDN.out nq), HNE, HMT⟩
        case rest =>
          obtain ⟨j, n, hj, rfl, HDR, HNE, HMT⟩ := hcut
          have HWB : Hid (Below wo.heap.size wo wc) := by rw [HDR.out]; exact Lib.hid (bdrew (Below.refl _ _) n)
          have HSTx : Hid (RG w wc (.slice Ao qs.length co) qs) := Lib.hid (HST1.out.keep HWB.out)
          have HFB : Hid (Blk wc fb 58 #[.int .i64 p.start, .int .i64 p.kind, .int .i64 pm.a, .int .i64 pm.b, .int .i64 pm.c, .int .i64 pm.d, .slice pm.cA pm.cn pm.cc, .bool true, .slice pm.wA p.wl pm.wc, .slice pm.pA pm.pn pm.pc, .int .i64 pm.r, .slice pm.sA p.sites.length pm.sc]) := Lib.hid (HFBo.out.keep HWB.out)
          clear HST1 HFBo HWB HDR
          go_upto_if 57 with fail
          go_cut [3] from 17 to 109 (fun v wx => Hid (Mid w ps k p pm fb j v wx))
          case first =>
            by_cases hjl : j < qs.length
            · obtain ⟨q, hq⟩ : ∃ q, qs[j]? = some q := ⟨_, List.getElem?_eq_getElem hjl⟩
              obtain ⟨g, hAg⟩ : ∃ g, Ao = some ⟨g, 0, none⟩ := by
                rcases owns_shape HSTx.out.out.1 with ⟨-, h1, -⟩ | ⟨g, cap, h1⟩
                · omega
                · injection h1 with h1 _ _; exact ⟨g, h1⟩
              subst hAg
              have HQQ := Lib.hid hq
              have hb9 : ((j : Int) == (qs.length : Int)) = false := by simp; omega
              have hb9' : (j == qs.length) = false := by simp; omega
              have HMID : Hid (Mid w ps k p pm fb j (.slice (some ⟨g, 0, none⟩) qs.length co) wc) := Lib.hid (by
                obtain ⟨-, -, hi1, hi2, hrok⟩ := HSTx.out.at_ rfl hq
                have hmt := HMT.out q hq
                obtain ⟨gj, hgj, hqe⟩ := HPR.out.at_ hq
                obtain ⟨r, sv, tv⟩ := q
                obtain ⟨A1, c1, hsv, -, -, -, -⟩ := hi1.ints
                obtain ⟨A2, c2, htv, -, -, -, -⟩ := hi2.ints
                simp only at hsv htv hqe hmt
                subst hsv htv hqe
                have hgm := List.mem_of_getElem? hgj
                have hgl := (gs_len HGS.out).2 gj hgm
                have hgne := (HGS.out.1 gj hgm).1
                have hlt2 := HGS.out.lt gj hgm
                have hbm : bestOf (ps.map (·.1)) (gj.headD 0) gj < ps.length := by
                  have h1 := best_mem (ps.map (·.1)) (gj.headD 0) gj
                  rcases List.mem_cons.1 h1 with h1 | h1
                  · rw [h1]
                    cases gj with
                    | nil => exact absurd rfl hgne
                    | cons a t => have := hlt2 a (by simp); simp only [List.headD_cons]; omega
                  · have := hlt2 _ h1; omega
                refine ⟨g, qs.length, co, qs, _, A1, c1, A2, c2, bestOf (ps.map (·.1)) (gj.headD 0) gj, rfl, HSTx.out, rfl, hq, rfl, hbm, ⟨?_, ?_⟩, ?_, by omega, hoc1, by unfold maxLen; omega, HFB.out, fun q' hq' => ⟨gs.set j (gj ++ [k]), ?_, ?_⟩⟩
                · show (0 : Int) ≤ gj.length; omega
                · show (gj.length : Int) ≤ k; omega
                · have h1 := compact_len ((gj.map (stOf (ps.map (·.1)))).mergeSort fun x y => decide (x ≤ y))
                  rw [List.length_mergeSort, List.length_map] at h1
                  exact Nat.le_trans h1 hgl
                · refine HGS.out.more HPP.out HF.out hgj fun i hi => ?_
                  rw [pre_key HGS.out hk hgm i hi, key_at HPP.out, hmt.1, hmt.2]
                · exact HPR.out.set j (by rw [hq', preOf_snoc _ hgne]))
              clear hq
              go_wp2_with fail
              go_meet
              exact HMID
            · have hje : j = qs.length := by omega
              subst hje
              have hb9 : ((qs.length : Int) == (qs.length : Int)) = true := by simp
              have hb9' : (qs.length == qs.length) = true := by simp
              have HLN : Hid ((p.sites.map (Value.int .i64)).length = p.sites.length * 1) := Lib.hid (by rw [List.length_map]; omega)
              have HON : Hid (∀ u ∈ p.sites.map (Value.int .i64), u.oneCell' = true) := Lib.hid (ones_int _)
              have HRS : Hid (Rd wc.drew pm.sA (p.sites.map (Value.int .i64))) := Lib.hid (by
                obtain ⟨A9, c9, hv9, -, -, -, h9⟩ := HOP.out.1.keep (HSTx.out.bl.trans ((Below.refl _ _).drew.mono HSTx.out.bl.size))
                injection hv9 with e1 _ _
                subst e1
                exact h9)
              have hsl := HSP.out
              have HM1 : Hid (0 + p.sites.length ≤ maxLen) := by refine Lib.hid ?_; unfold maxLen; omega
              have HM2 : Hid ((0 + p.sites.length) * 8 ≤ 140737488355328) := by refine Lib.hid ?_; omega
              have HROK : Hid (Rep.ok ⟨p.kind, p.sites, [], 0, (k : Int), 0⟩) := Lib.hid ⟨HOP.out.2.2.1, ⟨by show _ ≤ (0 : Int); omega, by show (0 : Int) ≤ _; omega⟩, ⟨by show _ ≤ (k : Int); omega, by show (k : Int) ≤ _; omega⟩, ⟨by show _ ≤ (0 : Int); omega, by show (0 : Int) ≤ _; omega⟩⟩
              have HM3 : Hid (qs.length + 1 ≤ maxLen) := by refine Lib.hid ?_; unfold maxLen; omega
              have HM4 : Hid ((qs.length + 1) * 80 ≤ 140737488355328) := by refine Lib.hid ?_; omega
              have HSOB : Hid (∀ w', Blk w' fb 58 #[.int .i64 p.start, .int .i64 p.kind, .int .i64 pm.a, .int .i64 pm.b, .int .i64 pm.c, .int .i64 pm.d, .slice pm.cA pm.cn pm.cc, .bool true, .slice pm.wA p.wl pm.wc, .slice pm.pA pm.pn pm.pc, .int .i64 pm.r, .slice pm.sA p.sites.length pm.sc] → w'.cell? ⟨fb, 1, none⟩ = some (.int .i64 p.kind) ∧ w'.cell? ⟨fb, 11, none⟩ = some (.slice pm.sA p.sites.length pm.sc)) := Lib.hid (fun w' h => by
                have h1 := h.cell 1
                have h11 := h.cell 11
                simp only [List.getElem?_toArray, List.getElem?_cons_zero, List.getElem?_cons_succ] at h1 h11
                exact ⟨h1, h11⟩)
              have HSOF : Hid (∀ w', Below wc.heap.size wc w' → w'.cell? ⟨fb, 1, none⟩ = some (.int .i64 p.kind) ∧ w'.cell? ⟨fb, 11, none⟩ = some (.slice pm.sA p.sites.length pm.sc)) := Lib.hid (fun w' hb => HSOB.out w' (HFB.out.keep hb))
              go_wp2_with fail
              go_region_held3 (fun w' => w'.cell? ⟨fb, 1, none⟩ = some (.int .i64 p.kind) ∧ w'.cell? ⟨fb, 11, none⟩ = some (.slice pm.sA p.sites.length pm.sc)) (first | with_reducible assumption | exact HSOF.out _ (Below.refl _ _).drew | exact HSOF.out _ (Below.al HB5.out _)) (first
                | (refine step_append_rdR rfl (.const (.slice none 0 0)) (.tmp 64) 33 rfl wc.heap.size 3 iI (.int .i64 0) 1 8 Tryd.underlying33 hiI hzI0 hzI1 hzI2 rfl (by decide) (.slice none 0 0) 0 [] (by simp [Act.eval]) (World.ownsRow_nil _ _ _ _) pm.sA p.sites.length pm.sc (p.sites.map (Value.int .i64)) (by simp [Act.eval]) HLN.out HRS.out HON.out HM1.out HM2.out (Nat.le_refl _) ?_; intro v5 w5 hown hg hat; simp only [Nat.zero_add, List.nil_append] at hown; have HO5 := Lib.hid hown; have HB5 : Hid (Below wc.heap.size wc w5) := Lib.hid (Below.trans (Below.refl _ _).drew ((Below.refl _ _).grown hg (Nat.le_refl _) fun k e => by cases e)); obtain ⟨A5, c5, hv5, -, -, -⟩ := owns_rd hown; subst hv5; have HQ5 := Lib.hid (HSTx.out.keep HB5.out); have hs5 := HSOF.out w5 HB5.out; have HZ5 : Hid (w.heap.size ≤ (w5.alloc (.cells #[.int .i64 p.kind, .slice A5 p.sites.length c5, .slice none 0 0, .int .i64 0, .int .i64 (k : Int), .int .i64 0] 61)).heap.size) := Lib.hid (by have h1 := HQ5.out.bl.size; simp; omega); clear hown hg hat)
                | (refine step_append_ownR rfl (.tmp 58) (.tmp 68) 48 rfl w.heap.size 61 iR (.agg #[.int .i64 0, .slice none 0 0, .slice none 0 0, .int .i64 0, .int .i64 0, .int .i64 0]) 6 80 Tryd.underlying48 hiR hzR0 hzR1 hzR2 rfl (by decide) (.slice Ao qs.length co) qs.length (qs.flatMap Rep.cells) (by simp [Act.eval]) (HQ5.out.out.1.alloc _) ⟨w5.heap.size, 0, none⟩ 1 1 [.int .i64 p.kind, .slice A5 p.sites.length c5, .slice none 0 0, .int .i64 0, .int .i64 (k : Int), .int .i64 0] (by simp [Act.eval]) rfl (cells_at w5 _ [.int .i64 p.kind, .slice A5 p.sites.length c5, .slice none 0 0, .int .i64 0, .int .i64 (k : Int), .int .i64 0] rfl) (six_one _ _ _ _ _ _ _ _ _ _) HM3.out HM4.out HZ5.out ?_; intro v7 w7 hown hg hat; obtain ⟨g7, c7, hv7⟩ := owns_some (by omega) hown; subst hv7; have HPU := Lib.hid (HQ5.out.push (r := ⟨p.kind, p.sites, [], 0, (k : Int), 0⟩) (IntsO.own5 HO5.out HOP.out.1 HSTx.out.out.1 HSTx.out.bl.size rfl) (IntsO.nil _ _) HROK.out hown hg hat); have HF7 := Lib.hid (blk7 (HFB.out.keep HB5.out) HQ5.out.out.1 hg); have hs7 := HSOB.out w7 HF7.out; clear hown hg hat))
              go_wp2_with fail
              have HMID : Hid (Mid w ps k p pm fb qs.length (.slice (some ⟨g7, 0, none⟩) (qs.length + 1) c7) w7) := Lib.hid (by
                have h9 := HPU.out.out.1
                rw [List.length_append, List.length_singleton] at h9
                obtain ⟨-, -, q3, q4, -⟩ := rd_of_row h9
                refine ⟨g7, qs.length + 1, c7, _, ⟨p.kind, p.sites, [], 0, (k : Int), 0⟩, A5, c5, none, 0, k, rfl, HPU.out, by simp, by simp, rfl, by omega, ⟨by show (0 : Int) ≤ 0; omega, by show (0 : Int) ≤ k; omega⟩, by simp, by omega, q3, q4, HF7.out, fun q' hq' => ⟨gs ++ [[k]], ?_, ?_⟩⟩
                · refine HGS.out.new HPP.out HF.out fun g hg i hi => ?_
                  obtain ⟨j, hj2, hj3⟩ := List.getElem_of_mem hg
                  have hjq : j < qs.length := by rw [HPR.out.len]; exact hj2
                  obtain ⟨q, hq⟩ : ∃ q, qs[j]? = some q := ⟨_, List.getElem?_eq_getElem hjq⟩
                  obtain ⟨gj, hgj, hqe⟩ := HPR.out.at_ hq
                  have hgg : gj = g := by rw [List.getElem?_eq_getElem hj2, hj3] at hgj; injection hgj with hgj; exact hgj.symm
                  subst hgg
                  have hne := HNE.out j q hjq hq
                  rw [hqe] at hne
                  rw [pre_key HGS.out hk hg i hi, key_at HPP.out]
                  intro e
                  injection e with e
                  injection e with e1 e2
                  exact hne ⟨e1, e2⟩
                · rw [List.set_append_right _ _ (Nat.le_refl _)]
                  simp only [Nat.sub_self, List.set_cons_zero]
                  refine HPR.out.snoc ?_
                  rw [hq', preOf_one (ps.map (·.1)) (f := p) (by rw [List.getElem?_map, HPP.out]; rfl)])
              go_meet
              exact HMID
          case rest =>
            obtain ⟨g, NL, co2, QS, r, A1, c1, A2, c2, bt, rfl, hm, hnl, hqm, hbt, hbtl, hcnt, hstl, hnk, hnc, hcm, hfb, hfin⟩ := hcut.out
            have HM := Lib.hid hm
            have HNL := Lib.hid hnl
            have HQM := Lib.hid hqm
            have HBT := Lib.hid hbt
            have HSTL := Lib.hid hstl
            have HFB := Lib.hid hfb
            have HFIN := Lib.hid hfin
            clear hcut HSTx HNE HMT HQL hql hoc1 hoc2 hm hnl hqm hbt hstl hfb hfin hj
            unfold maxLen at hcm
            generalize wc = W at *
            obtain ⟨hgl, hcr, hs1, hs2, hrok⟩ := HM.out.at_ HNL.out HQM.out
            have hjN : j < NL := by rw [HNL.out]; exact (List.getElem?_eq_some_iff.1 HQM.out).1
            have HOWN : Hid (W.ownsRow w.heap.size 61 6 (.slice (some ⟨g, 0, none⟩) NL co2) NL (QS.flatMap Rep.cells)) := Lib.hid (by have h9 := HM.out.out.1; rwa [← HNL.out] at h9)
            have HFG : Hid (fb ≠ g) := Lib.hid (blk_ne_own HFB.out HOWN.out (by decide))
            have li9 : (j : Int) < NL := by omega
            have e3 := hcr.2.2.2.1
            have z3 : W.frozen? ⟨g, j * 6 + 3, none⟩ = false := owns_frozen HOWN.out _
            simp only at e3
            have HS1 := Lib.hid hs1
            have HS2 := Lib.hid hs2
            have HRO := Lib.hid hrok
            have hc0 : 0 ≤ r.count := hcnt.1
            have hc1 : r.count ≤ k := hcnt.2
            clear hs1 hs2 hrok hcr hcnt
            go_upto_region 13 with fail
            have HQ1 : Hid (({ r with count := r.count + 1 } : Rep).ok) := Lib.hid ⟨HRO.out.1, by show I64 (r.count + 1); constructor <;> omega, HRO.out.2.2.1, HRO.out.2.2.2⟩
            have HM2 : Hid (RG w (W.setCell ⟨g, j * 6 + 3, none⟩ (.int .i64 (r.count + 1))) (.slice (some ⟨g, 0, none⟩) NL co2) (QS.set j ({ r with count := r.count + 1 }, .slice A1 r.sites.length c1, .slice A2 r.starts.length c2))) := Lib.hid (HM.out.set HNL.out HQM.out (by omega) rfl HS1.out HS2.out HQ1.out)
            have HFB2 : Hid (Blk (W.setCell ⟨g, j * 6 + 3, none⟩ (.int .i64 (r.count + 1))) fb 58 #[.int .i64 p.start, .int .i64 p.kind, .int .i64 pm.a, .int .i64 pm.b, .int .i64 pm.c, .int .i64 pm.d, .slice pm.cA pm.cn pm.cc, .bool true, .slice pm.wA p.wl pm.wc, .slice pm.pA pm.pn pm.pc, .int .i64 pm.r, .slice pm.sA p.sites.length pm.sc]) := Lib.hid (HFB.out.far HFG.out _)
            generalize W.setCell ⟨g, j * 6 + 3, none⟩ (.int .i64 (r.count + 1)) = W2 at HM2 HFB2 ⊢
            clear e3 z3 HFB HM HS1 HS2 HOWN hgl
            obtain ⟨r2, hr2⟩ : ∃ r2 : Rep, r2 = { r with count := r.count + 1 } := ⟨_, rfl⟩
            have HR2 := Lib.hid hr2
            obtain ⟨QS2, hqs2⟩ : ∃ QS2, QS2 = QS.set j (r2, .slice A1 r.sites.length c1, .slice A2 r.starts.length c2) := ⟨_, rfl⟩
            have HQS2 := Lib.hid hqs2
            rw [← hr2] at HM2
            rw [← hqs2] at HM2
            have HNL2 : Hid (NL = QS2.length) := Lib.hid (by rw [hqs2, List.length_set]; exact HNL.out)
            have HQM2 : Hid (QS2[j]? = some (r2, .slice A1 r.sites.length c1, .slice A2 r.starts.length c2)) := Lib.hid (by rw [hqs2, List.getElem?_set_self (by rw [← HNL.out]; exact hjN)])
            clear hr2 hqs2
            obtain ⟨hgl2, hcr, hs1, hs2, -⟩ := HM2.out.at_ HNL2.out HQM2.out
            have e2 := hcr.2.2.1
            have HGL2 := Lib.hid hgl2
            have HOWN : Hid (W2.ownsRow w.heap.size 61 6 (.slice (some ⟨g, 0, none⟩) NL co2) NL (QS2.flatMap Rep.cells)) := Lib.hid (by have h9 := HM2.out.out.1; rwa [← HNL2.out] at h9)
            have z2 : W2.frozen? ⟨g, j * 6 + 2, none⟩ = false := owns_frozen HOWN.out _
            have f0 := HFB2.out.cell 0
            simp only [List.getElem?_toArray, List.getElem?_cons_zero] at f0 e2
            have HS1 := Lib.hid hs1
            have HS2 : Hid (IntsO W2 (fun b => w.heap.size ≤ b ∧ b ≠ g) (.slice A2 r.starts.length c2) r.starts) := Lib.hid (by have h := hs2; rw [HR2.out] at h; exact h)
            clear hs1 hs2 hcr hgl2
            have HINS : Hid (∀ w', Below W2.heap.size W2 w' → Calls Tryd.prog 45 #[.slice A2 r.starts.length c2, .int .i64 p.start] w' fun e w'' => ∃ A9 c9, e = .returned (.slice A9 (insAsc r.starts p.start).length c9) ∧ IntsO w'' (fun b => w.heap.size ≤ b ∧ b ≠ g) (.slice A9 (insAsc r.starts p.start).length c9) (insAsc r.starts p.start) ∧ w''.cell? ⟨g, j * 6 + 2, none⟩ = some (.slice A2 r.starts.length c2) ∧ w''.frozen? ⟨g, j * 6 + 2, none⟩ = false ∧ Below W2.heap.size W2 w'') := Lib.hid (fun w' hb => by
              refine (rinsert_any _ _ r.starts p.start w' (HS2.out.keep hb) HOP.out.2.1 (by have := HSTL.out; omega)).mono ?_
              rintro e w'' ⟨v, rfl, hi, hb2⟩
              obtain ⟨A9, c9, rfl, -⟩ := hi.ints
              have hbb : Below W2.heap.size W2 w'' := hb.trans (hb2.mono hb.size)
              refine ⟨A9, c9, rfl, hi.mono fun b _ hbp => ?_, (hbb.cell (p := ⟨g, j * 6 + 2, none⟩) HGL2.out).trans e2, (hbb.frozen (p := ⟨g, j * 6 + 2, none⟩) HGL2.out).trans z2, hbb⟩
              rcases hbp with hbp | hbp
              · exact hbp
              · have h1 := hb.size
                have h2 := HM2.out.bl.size
                have h3 := HGL2.out
                exact ⟨by omega, by omega⟩)
            go_region_with ((go_at_call 45; (with_reducible refine (HINS.out _ (by first | exact Below.refl _ _ | exact (Below.refl _ _).drew)).mono ?_); rintro e w6 ⟨A9, c9, rfl, hi9, he9, hz9, hb9⟩; have HI9 := Lib.hid hi9; have HB9 := Lib.hid hb9; clear hi9 hb9))
            all_goals
              clear he9 hz9 e2 z2 f0
              have HM6 := Lib.hid (HM2.out.keep HB9.out)
              obtain ⟨r3, hr3⟩ : ∃ r3 : Rep, r3 = { r2 with starts := insAsc r.starts p.start } := ⟨_, rfl⟩
              have HR3 := Lib.hid hr3
              have HQ3 : Hid r3.ok := Lib.hid (by rw [hr3, HR2.out]; exact HQ1.out)
              have HM7 : Hid (RG w (w6.setCell ⟨g, j * 6 + 2, none⟩ (.slice A9 (insAsc r.starts p.start).length c9)) (.slice (some ⟨g, 0, none⟩) NL co2) (QS2.set j (r3, .slice A1 r.sites.length c1, .slice A9 (insAsc r.starts p.start).length c9))) := Lib.hid (HM6.out.set HNL2.out HQM2.out (by omega) (by rw [hr3]; rfl) (by rw [hr3]; exact HS1.out.keep HB9.out) (by rw [hr3]; exact HI9.out) HQ3.out)
              have HFB7 : Hid (Blk (w6.setCell ⟨g, j * 6 + 2, none⟩ (.slice A9 (insAsc r.starts p.start).length c9)) fb 58 #[.int .i64 p.start, .int .i64 p.kind, .int .i64 pm.a, .int .i64 pm.b, .int .i64 pm.c, .int .i64 pm.d, .slice pm.cA pm.cn pm.cc, .bool true, .slice pm.wA p.wl pm.wc, .slice pm.pA pm.pn pm.pc, .int .i64 pm.r, .slice pm.sA p.sites.length pm.sc]) := Lib.hid ((HFB2.out.keep HB9.out).far HFG.out _)
              generalize w6.setCell ⟨g, j * 6 + 2, none⟩ (.slice A9 (insAsc r.starts p.start).length c9) = W7 at HM7 HFB7 ⊢
              obtain ⟨QS3, hqs3⟩ : ∃ QS3, QS3 = QS2.set j (r3, .slice A1 r.sites.length c1, .slice A9 (insAsc r.starts p.start).length c9) := ⟨_, rfl⟩
              have HQS3 : Hid (QS3 = QS.set j (r3, .slice A1 r.sites.length c1, .slice A9 (insAsc r.starts p.start).length c9)) := Lib.hid (by rw [hqs3, HQS2.out, List.set_set])
              rw [← hqs3] at HM7
              have HNL3 : Hid (NL = QS3.length) := Lib.hid (by rw [hqs3, List.length_set]; exact HNL2.out)
              have HQM3 : Hid (QS3[j]? = some (r3, .slice A1 r.sites.length c1, .slice A9 (insAsc r.starts p.start).length c9)) := Lib.hid (by rw [hqs3, List.getElem?_set_self (by rw [← HNL2.out]; exact hjN)])
              clear hr3 hqs3 HM2 HFB2 HINS HGL2 HS1 HS2 HOWN HM6 HI9 HB9
              obtain ⟨hgl3, hcr, hs1, hs2, -⟩ := HM7.out.at_ HNL3.out HQM3.out
              have HS1 := Lib.hid hs1
              have HS2 := Lib.hid hs2
              have e4 : W7.cell? ⟨g, j * 6 + 4, none⟩ = some (.int .i64 (bt : Int)) := by
                have h := hcr.2.2.2.2.1
                simp only at h
                rw [h, HR3.out, HR2.out]
                show some (Value.int .i64 r.best) = _
                rw [HBT.out]
              have HOWN : Hid (W7.ownsRow w.heap.size 61 6 (.slice (some ⟨g, 0, none⟩) NL co2) NL (QS3.flatMap Rep.cells)) := Lib.hid (by have h9 := HM7.out.out.1; rwa [← HNL3.out] at h9)
              have z4 : W7.frozen? ⟨g, j * 6 + 4, none⟩ = false := owns_frozen HOWN.out _
              have f8 := HFB7.out.cell 8
              simp only [List.getElem?_toArray, List.getElem?_cons_zero, List.getElem?_cons_succ] at f8
              obtain ⟨bp, hbp⟩ : ∃ q, ps[bt]? = some q := ⟨_, List.getElem?_eq_getElem hbtl⟩
              obtain ⟨-, hcb⟩ := Fnds.atx (HR.out.keep HM7.out.bl) hbp
              obtain ⟨-, -, -, -, -, -, -, -, d8, -, -, -⟩ := hcb
              have HBP := Lib.hid hbp
              obtain ⟨bp, bm⟩ := bp
              simp only at d8
              have lb : (bt : Int) < ps.length := by omega
              have lb0 : (0 : Int) ≤ bt := by omega
              have HUP : Hid (updR (ps.map (·.1)) r k bt = { r3 with best := if p.wl < bp.wl then (k : Int) else r.best }) := Lib.hid (by
                unfold updR stOf wlOf
                rw [List.getElem?_map, List.getElem?_map, HPP.out, HBP.out, HR3.out, HR2.out]
                rfl)
              clear hbp hs1 hs2 hcr hgl3
              by_cases hwl : p.wl < bp.wl
              · have t1 : decide (p.wl < bp.wl) = true := by simpa using hwl
                have HU2 : Hid (({ r3 with best := (k : Int) } : Rep) = updR (ps.map (·.1)) r k bt) := Lib.hid (by rw [HUP.out, if_pos hwl])
                have HM8 : ∀ N, Hid (RG w ((W7.drewN N).setCell ⟨g, j * 6 + 4, none⟩ (.int .i64 (k : Int))) (.slice (some ⟨g, 0, none⟩) NL co2) (QS3.set j ({ r3 with best := (k : Int) }, .slice A1 r.sites.length c1, .slice A9 (insAsc r.starts p.start).length c9))) := fun N => Lib.hid ((HM7.out.keep (bdrew (Below.refl _ _) N)).set HNL3.out HQM3.out (by omega) rfl (HS1.out.keep (bdrew (Below.refl _ _) N)) (HS2.out.keep (bdrew (Below.refl _ _) N)) ⟨HQ3.out.1, HQ3.out.2.1, ⟨by show _ ≤ (k : Int); omega, by show (k : Int) ≤ _; omega⟩, HQ3.out.2.2.2⟩)
                obtain ⟨gs', hg1, hg2⟩ := HFIN.out ({ r3 with best := (k : Int) }, .slice A1 r.sites.length c1, .slice A9 (insAsc r.starts p.start).length c9) HU2.out
                have HG1 := Lib.hid hg1
                have HG2 := Lib.hid hg2
                have HQE : Hid (QS3.set j ({ r3 with best := (k : Int) }, .slice A1 r.sites.length c1, .slice A9 (insAsc r.starts p.start).length c9) = QS.set j ({ r3 with best := (k : Int) }, .slice A1 r.sites.length c1, .slice A9 (insAsc r.starts p.start).length c9)) := Lib.hid (by rw [HQS3.out, List.set_set])
                clear hg1 hg2
                go_wp2_with fail
                go_quiet (fail)
                go_wp2_with fail
                go_roundw
                case rel => exact ⟨k + 1, gs', _, by omega, by go_num, HM8 _, HG1, Lib.hid (by rw [HQE.out]; exact HG2.out)⟩
                case measure => simp [intOf]; omega
              · have t1 : decide (p.wl < bp.wl) = false := by simpa using hwl
                have HU2 : Hid (r3 = updR (ps.map (·.1)) r k bt) := Lib.hid (by
                  rw [HUP.out, if_neg hwl, HR3.out, HR2.out])
                obtain ⟨gs', hg1, hg2⟩ := HFIN.out (r3, .slice A1 r.sites.length c1, .slice A9 (insAsc r.starts p.start).length c9) HU2.out
                have HG1 := Lib.hid hg1
                have HG2 := Lib.hid hg2
                clear hg1 hg2
                go_wp2_with fail
                go_quiet (fail)
                go_wp2_with fail
                go_roundw
                case rel => exact ⟨k + 1, gs', QS3, by omega, by go_num, Lib.hid (HM7.out.keep (bdrew (Below.refl _ _) _)), HG1, Lib.hid (by rw [HQS3.out]; exact HG2.out)⟩
                case measure => simp [intOf]; omega
    · have hke : k = ps.length := by omega
      have HGA : Hid (IsGroupsTo ps ps.length gs) := Lib.hid (by rw [← hke]; exact HGS.out)
      have HQN : Hid (qs.length = gs.length) := Lib.hid HPR.out.len
      have lk : ¬ (k : Int) < ps.length := by omega
      have hqm : qs.length ≤ 1000000 := by omega
      obtain ⟨N, hN⟩ : ∃ N, N = qs.length := ⟨_, rfl⟩
      have HN := Lib.hid hN
      have HNG : Hid (N = gs.length) := Lib.hid (by rw [hN]; exact HPR.out.len)
      have HST0 : Hid (RG w wr (.slice Ao N co) qs) := Lib.hid (by rw [hN]; exact HST.out)
      rw [← hN]
      rw [← hN] at hqm hoc1
      clear hN hke hql HQL HST HGS
      go_wp2_with fail
      go_loopw [112] (fun iv wx => ∃ (i : Nat) (qi : List (Rep × Value × Value)), i ≤ N ∧ iv = .int .i64 i ∧ qi.length = N ∧ Hid (RG w wx (.slice Ao N co) qi) ∧ Hid (qi.map (·.1) = (gs.take i).map (repOf (ps.map (·.1))) ++ (gs.drop i).map (preOf (ps.map (·.1))))) (fun iv _ => N - (intOf iv).toNat)
      case atStart => exact ⟨0, qs, by omega, rfl, HN.out.symm, HST0, Lib.hid (by rw [List.take_zero, List.drop_zero]; exact HPR.out)⟩
      case round =>
        obtain ⟨i, qi, hi, rfl, hql, HST, HMP⟩ := hrel
        have HQL := Lib.hid hql
        by_cases hil : i < N
        · obtain ⟨q, hq⟩ : ∃ q, qi[i]? = some q := ⟨_, List.getElem?_eq_getElem (by omega)⟩
          obtain ⟨gi, hgi⟩ : ∃ g, gs[i]? = some g := ⟨_, List.getElem?_eq_getElem (by have := HNG.out; omega)⟩
          obtain ⟨g, hAg⟩ : ∃ g, Ao = some ⟨g, 0, none⟩ := by
            rcases owns_shape HST.out.out.1 with ⟨-, h1, -⟩ | ⟨g, cap, h1⟩
            · omega
            · injection h1 with h1 _ _; exact ⟨g, h1⟩
          subst hAg
          have HQE : Hid (q.1 = preOf (ps.map (·.1)) gi) := Lib.hid (by
            have h := congrArg (fun l => l[i]?) HMP.out
            simp only [List.getElem?_map, hq, Option.map_some] at h
            have hl : ((gs.take i).map (repOf (ps.map (·.1)))).length = i := by rw [List.length_map, List.length_take]; have := HNG.out; omega
            rw [List.getElem?_append_right (by omega), hl, Nat.sub_self, List.getElem?_map, List.getElem?_drop, Nat.add_zero, hgi] at h
            simpa using h)
          have HQQ := Lib.hid hq
          have HGI := Lib.hid hgi
          obtain ⟨hgl, hcq, hs1, hs2, hrok⟩ := HST.out.at_ hql.symm hq
          obtain ⟨q, sv, tv⟩ := q
          obtain ⟨A1, c1, hsv, -, -, -, -⟩ := hs1.ints
          obtain ⟨A2, c2, htv, -, -, -, -⟩ := hs2.ints
          simp only at hsv htv
          subst hsv htv
          have HS1 := Lib.hid hs1
          have HS2 := Lib.hid hs2
          have HRK := Lib.hid hrok
          obtain ⟨bt, hbt⟩ : ∃ bt, bt = bestOf (ps.map (·.1)) (gi.headD 0) gi := ⟨_, rfl⟩
          have hgm := List.mem_of_getElem? hgi
          have hbl : bt < ps.length := by
            have h1 := best_mem (ps.map (·.1)) (gi.headD 0) gi
            rw [← hbt] at h1
            have hlt2 := HGA.out.lt gi hgm
            rcases List.mem_cons.1 h1 with h1 | h1
            · rw [h1]
              have hgne := (HGA.out.1 gi hgm).1
              cases gi with
              | nil => exact absurd rfl hgne
              | cons a t => have := hlt2 a (by simp); simp only [List.headD_cons]; omega
            · exact hlt2 _ h1
          have HBT := Lib.hid hbt
          obtain ⟨bp, hbp⟩ : ∃ q, ps[bt]? = some q := ⟨_, List.getElem?_eq_getElem hbl⟩
          obtain ⟨b0, off0, hA0, hbl0, hcb⟩ := Fnds.at_ (HR.out.keep HST.out.bl) hbp
          subst hA0
          obtain ⟨-, -, -, -, -, -, -, -, d8, -, -, -⟩ := hcb
          have HBP := Lib.hid hbp
          obtain ⟨bp, bm⟩ := bp
          obtain ⟨e0, -, e2, -, e4, e5⟩ := hcq
          simp only at d8 e0 e2 e4 e5
          have e4' : wr.cell? ⟨g, i * 6 + 4, none⟩ = some (.int .i64 (bt : Int)) := by
            rw [e4]
            have h := HQE.out
            simp only at h
            rw [h, hbt]; rfl
          have HOWN : Hid (wr.ownsRow w.heap.size 61 6 (.slice (some ⟨g, 0, none⟩) N co) N (qi.flatMap Rep.cells)) := Lib.hid (by have h9 := HST.out.out.1; rwa [hql] at h9)
          have z5 : wr.frozen? ⟨g, i * 6 + 5, none⟩ = false := owns_frozen HOWN.out _
          have li1 : (i : Int) < N := by omega
          have lb : (bt : Int) < ps.length := by omega
          have lb0 : (0 : Int) ≤ bt := by omega
          have HSC : Hid (({ q with score := scoreOf q.kind q.starts.length bp.wl } : Rep) = repOf (ps.map (·.1)) gi) := Lib.hid (by
            have h := HQE.out
            simp only at h
            rw [h, ← preOf_score (ps.map (·.1)) gi, ← hbt]
            unfold wlOf
            rw [List.getElem?_map, HBP.out]
            rfl)
          have HS0 : Hid (wr.drew.cell? ⟨g, i * 6, none⟩ = some (.int .i64 q.kind) ∧ wr.drew.cell? ⟨g, i * 6 + 2, none⟩ = some (.slice A2 q.starts.length c2) ∧ wr.drew.cell? ⟨g, i * 6 + 4, none⟩ = some (.int .i64 (bt : Int)) ∧ wr.drew.cell? ⟨b0, off0 + bt * 12 + 8, none⟩ = some (.slice bm.wA bp.wl bm.wc)) := Lib.hid ⟨e0, e2, e4', d8⟩
          have hgw : w.heap.size ≤ g := (HOWN.out.lt g rfl).1
          have hb0w : b0 ≠ g := by
            obtain ⟨b1, o1, h1, h2, -⟩ := Fnds.at_ HR.out HBP.out
            injection h1 with h1
            injection h1 with h1 _ _
            omega
          have HSS : Hid (∀ v, (wr.setCell ⟨g, i * 6 + 5, none⟩ v).drew.cell? ⟨g, i * 6, none⟩ = some (.int .i64 q.kind) ∧ (wr.setCell ⟨g, i * 6 + 5, none⟩ v).drew.cell? ⟨g, i * 6 + 2, none⟩ = some (.slice A2 q.starts.length c2) ∧ (wr.setCell ⟨g, i * 6 + 5, none⟩ v).drew.cell? ⟨g, i * 6 + 4, none⟩ = some (.int .i64 (bt : Int)) ∧ (wr.setCell ⟨g, i * 6 + 5, none⟩ v).drew.cell? ⟨b0, off0 + bt * 12 + 8, none⟩ = some (.slice bm.wA bp.wl bm.wc)) := Lib.hid (fun v =>
            ⟨set_off e0 (by omega), set_off e2 (by omega), set_off e4' (by omega), set_blk d8 (fun e => hb0w e.symm)⟩)
          have HM5 : Hid (RG w (wr.setCell ⟨g, i * 6 + 5, none⟩ (.int .i64 (scoreOf q.kind q.starts.length bp.wl))).drew (.slice (some ⟨g, 0, none⟩) N co) (qi.set i ({ q with score := scoreOf q.kind q.starts.length bp.wl }, .slice A1 q.sites.length c1, .slice A2 q.starts.length c2))) := Lib.hid (by
            have h5 : RG w (wr.setCell ⟨g, i * 6 + 5, none⟩ (.int .i64 (scoreOf q.kind q.starts.length bp.wl))) (.slice (some ⟨g, 0, none⟩) N co) (qi.set i ({ q with score := scoreOf q.kind q.starts.length bp.wl }, .slice A1 q.sites.length c1, .slice A2 q.starts.length c2)) := HST.out.set hql.symm hq (by omega) rfl hs1 hs2 ⟨hrok.1, hrok.2.1, hrok.2.2.1, score_i64 _ _ _⟩
            exact h5.keep (Below.refl _ _).drew)
          have HMQ : Hid ((qi.set i (({ q with score := scoreOf q.kind q.starts.length bp.wl } : Rep), (.slice A1 q.sites.length c1 : Value), (.slice A2 q.starts.length c2 : Value))).map (·.1) = (gs.take (i + 1)).map (repOf (ps.map (·.1))) ++ (gs.drop (i + 1)).map (preOf (ps.map (·.1)))) := Lib.hid (by
            have hlg : i < gs.length := by have := HNG.out; omega
            have hl : ((gs.take i).map (repOf (ps.map (·.1)))).length = i := by rw [List.length_map, List.length_take]; omega
            rw [List.map_set, HMP.out, HSC.out, List.set_append_right _ _ (by omega), hl, Nat.sub_self, List.drop_eq_getElem_cons hlg, List.map_cons, List.set_cons_zero, take_succ_of hgi, List.map_append, List.map_singleton, List.append_assoc]
            rfl)
          clear hq hgi hs1 hs2 hrok hbt hbp e4 hql
          go_wp2_with fail
          go_region_held3 (fun w' => w'.cell? ⟨g, i * 6, none⟩ = some (.int .i64 q.kind) ∧ w'.cell? ⟨g, i * 6 + 2, none⟩ = some (.slice A2 q.starts.length c2) ∧ w'.cell? ⟨g, i * 6 + 4, none⟩ = some (.int .i64 (bt : Int)) ∧ w'.cell? ⟨b0, off0 + bt * 12 + 8, none⟩ = some (.slice bm.wA bp.wl bm.wc) ) (first | with_reducible assumption | exact HS0.out | exact HSS.out _) (first
            | (go_at_call 17; (with_reducible refine (rscore_any _ _ _ _).mono ?_); rintro e w6 ⟨rfl, rfl⟩))
          go_wp2_with fail
          go_roundw
          case rel => exact ⟨i + 1, _, by omega, by go_num, by rw [List.length_set]; exact HQL.out, HM5, HMQ⟩
          case measure => simp [intOf]; omega
        · have hie : i = N := by omega
          have HRR : Hid (qi.map (·.1) = gs.map (repOf (ps.map (·.1)))) := Lib.hid (by
            have h := HMP.out
            rw [hie, HNG.out, List.take_length, List.drop_length] at h
            simpa using h)
          have HRQ : Hid (RepsQ wr (.slice Ao N co) qi) := Lib.hid HST.out.repsQ
          have HBW := Lib.hid HST.out.bl
          have lN : ¬ (i : Int) < N := by omega
          clear hie
          obtain ⟨w2, hw2⟩ : ∃ w2 : World, w2 = wr := ⟨_, rfl⟩
          subst hw2
          go_wp2_with fail
          have HMQ3 : Hid (Rd w2 Ao (qi.flatMap Rep.cells) ∧ ∀ q ∈ qi, Ints w2 q.2.1 q.1.sites ∧ Ints w2 q.2.2 q.1.starts ∧ q.1.ok) := Lib.hid (by
            obtain ⟨A', c', hv, -, -, h4, h5⟩ := HRQ.out
            injection hv with e1 _ _
            subst e1
            exact ⟨h4, h5⟩)
          have hqN : qi.length = N := HQL.out
          clear HMP HST
          go_loopw [9, 145] (fun sv mv wx => ∃ (m : Nat) (ss : List (Rep × Value × Value)) (As : Option Addr) (cs : Nat), m ≤ N ∧ mv = .int .i64 m ∧ sv = .slice As ss.length cs ∧ Hid (RepsQ wx (.slice As ss.length cs) ss) ∧ Hid (ss.map (·.1) = sortR ((qi.map (·.1)).take m)) ∧ Hid (Below w2.heap.size w2 wx)) (fun _ mv _ => N - (intOf mv).toNat)
          case atStart => exact ⟨0, [], none, 0, by omega, rfl, rfl, Lib.hid (RepsQ.nil _), Lib.hid rfl, Lib.hid (Below.refl _ _)⟩
          case round =>
            obtain ⟨m, ss, As, cs, hm, rfl, rfl, HSS3, HSO, HBL⟩ := hrel
            have HSL : Hid (ss.length = m) := Lib.hid (by
              have h := congrArg List.length HSO.out
              rw [List.length_map, (sortR_spec _).1.length_eq, List.length_take, List.length_map] at h
              omega)
            have hssl : ss.length ≤ 1000000 := by rw [HSL.out]; omega
            by_cases hml : m < N
            · obtain ⟨q, hq⟩ : ∃ q, qi[m]? = some q := ⟨_, List.getElem?_eq_getElem (by omega)⟩
              have HQQ := Lib.hid hq
              obtain ⟨bq, oq, hAq, hbq, hcq⟩ := Reps.at_ (HMQ3.out.1.keep HBL.out) hq
              have HIQ : Hid (Ints w2 q.2.1 q.1.sites ∧ Ints w2 q.2.2 q.1.starts ∧ q.1.ok) := Lib.hid (HMQ3.out.2 q (List.mem_of_getElem? hq))
              obtain ⟨r, sv, tv⟩ := q
              obtain ⟨A1, c1, hsv, -, -, -, -⟩ := HIQ.out.1
              obtain ⟨A2, c2, htv, -, -, -, -⟩ := HIQ.out.2.1
              simp only at hsv htv
              subst hsv htv hAq
              obtain ⟨k0, k1, k2, k3, k4, k5⟩ := hcq
              simp only at k0 k1 k2 k3 k4 k5
              have lm : (m : Int) < N := by omega
              clear hq
              go_upto_block 8 with fail
              obtain ⟨wo, hwo⟩ : ∃ wo : World, wo = wr.alloc (.cells #[.int .i64 r.kind, .slice A1 r.sites.length c1, .slice A2 r.starts.length c2, .int .i64 r.count, .int .i64 r.best, .int .i64 r.score] 61) := ⟨_, rfl⟩
              have HBO : Hid (Below wr.heap.size wr wo) := by rw [hwo]; exact Lib.hid ((Below.refl _ _).alloc (Nat.le_refl _) _)
              have HFB : Hid (Blk wo wr.heap.size 61 #[.int .i64 r.kind, .slice A1 r.sites.length c1, .slice A2 r.starts.length c2, .int .i64 r.count, .int .i64 r.best, .int .i64 r.score]) := by rw [hwo]; exact Lib.hid (Blk.new _ _ _)
              have HSS4 : Hid (RepsQ wo (.slice As ss.length cs) ss) := Lib.hid (HSS3.out.keep HBO.out)
              have HBL4 : Hid (Below w2.heap.size w2 wo) := Lib.hid (HBL.out.trans (HBO.out.mono HBL.out.size))
              rw [← hwo]
              clear hwo hbq k0 k1 k2 k3 k4 k5 HSS3 HBL HBO
              generalize wr.heap.size = fb at HFB ⊢
              have HRI : Hid (IsRep wo (.agg #[.int .i64 r.kind, .slice A1 r.sites.length c1, .slice A2 r.starts.length c2, .int .i64 r.count, .int .i64 r.best, .int .i64 r.score]) r) := Lib.hid ⟨_, _, rfl, HIQ.out.1.keep HBL4.out, HIQ.out.2.1.keep HBL4.out, HIQ.out.2.2⟩
              go_cut [12] from 146 to 175 (fun jv wx => ∃ j : Nat, j ≤ ss.length ∧ jv = .int .i64 j ∧ Hid (Grew wo wx) ∧ Hid (∀ i x, i < j → (ss.map (·.1))[i]? = some x → lessR x r = true) ∧ Hid (∀ x, (ss.map (·.1))[j]? = some x → lessR x r = false))
              case first =>
                go_wp2_with fail
                go_loopw [12] (fun jv wx => ∃ j : Nat, j ≤ ss.length ∧ jv = .int .i64 j ∧ Hid (Grew wo wx) ∧ Hid (∀ i x, i < j → (ss.map (·.1))[i]? = some x → lessR x r = true)) (fun jv _ => ss.length - (intOf jv).toNat)
                case atStart => exact ⟨0, by omega, rfl, Lib.hid (Grew.refl _), Lib.hid (fun i x hi => by omega)⟩
                case round =>
                  obtain ⟨j, hj, rfl, HGR, HLS⟩ := hrel
                  by_cases hjl : j < ss.length
                  · obtain ⟨x, hx⟩ : ∃ x, ss[j]? = some x := ⟨_, List.getElem?_eq_getElem hjl⟩
                    obtain ⟨A', c', hv, -, hcm9, h4, h5⟩ := HSS4.out.keep HGR.out.below
                    injection hv with e1 _ e3
                    subst e1 e3
                    obtain ⟨bs, os, hAs, hbs, hcx⟩ := Reps.at_ h4 hx
                    obtain ⟨i1, i2, i3⟩ := h5 x (List.mem_of_getElem? hx)
                    have HXR : Hid ((ss.map (·.1))[j]? = some x.1) := Lib.hid (by rw [List.getElem?_map, hx]; rfl)
                    obtain ⟨x, xsv, xtv⟩ := x
                    obtain ⟨X1, y1, hsv, -, -, -, -⟩ := i1
                    obtain ⟨X2, y2, htv, -, -, -, -⟩ := i2
                    simp only at hsv htv
                    subst hsv htv hAs
                    have HXI : Hid (IsRep wr (.agg #[.int .i64 x.kind, .slice X1 x.sites.length y1, .slice X2 x.starts.length y2, .int .i64 x.count, .int .i64 x.best, .int .i64 x.score]) x) := Lib.hid (by
                      obtain ⟨i1, i2, i3⟩ := h5 _ (List.mem_of_getElem? hx)
                      exact ⟨_, _, rfl, i1, i2, i3⟩)
                    obtain ⟨k0, k1, k2, k3, k4, k5⟩ := hcx
                    simp only at k0 k1 k2 k3 k4 k5
                    have hbf : fb < wr.heap.size := Nat.lt_of_lt_of_le HFB.out.lt HGR.out.below.size
                    have hfw := HFB.out.keep HGR.out.below
                    have q0 := hfw.cell 0
                    have q1 := hfw.cell 1
                    have q2 := hfw.cell 2
                    have q3 := hfw.cell 3
                    have q4 := hfw.cell 4
                    have q5 := hfw.cell 5
                    simp only [List.getElem?_toArray, List.getElem?_cons_zero, List.getElem?_cons_succ] at q0 q1 q2 q3 q4 q5
                    have g0 := fun n' os' => cell_grown (a := ⟨bs, os + j * 6, none⟩) hbs k0 n' os'
                    have g1 := fun n' os' => cell_grown (a := ⟨bs, os + j * 6 + 1, none⟩) hbs k1 n' os'
                    have g2 := fun n' os' => cell_grown (a := ⟨bs, os + j * 6 + 2, none⟩) hbs k2 n' os'
                    have g3 := fun n' os' => cell_grown (a := ⟨bs, os + j * 6 + 3, none⟩) hbs k3 n' os'
                    have g4 := fun n' os' => cell_grown (a := ⟨bs, os + j * 6 + 4, none⟩) hbs k4 n' os'
                    have g5 := fun n' os' => cell_grown (a := ⟨bs, os + j * 6 + 5, none⟩) hbs k5 n' os'
                    have p0 := fun n' os' => cell_grown (a := ⟨fb, 0, none⟩) hbf q0 n' os'
                    have p1 := fun n' os' => cell_grown (a := ⟨fb, 1, none⟩) hbf q1 n' os'
                    have p2 := fun n' os' => cell_grown (a := ⟨fb, 2, none⟩) hbf q2 n' os'
                    have p3 := fun n' os' => cell_grown (a := ⟨fb, 3, none⟩) hbf q3 n' os'
                    have p4 := fun n' os' => cell_grown (a := ⟨fb, 4, none⟩) hbf q4 n' os'
                    have p5 := fun n' os' => cell_grown (a := ⟨fb, 5, none⟩) hbf q5 n' os'
                    have HRI2 : Hid (IsRep wr (.agg #[.int .i64 r.kind, .slice A1 r.sites.length c1, .slice A2 r.starts.length c2, .int .i64 r.count, .int .i64 r.best, .int .i64 r.score]) r) := Lib.hid (HRI.out.keep HGR.out.below)
                    obtain ⟨z, hz⟩ : ∃ z, z = lessR x r := ⟨_, rfl⟩
                    have HZ := Lib.hid hz
                    have hc : ∀ (n' : Nat) (os' : Array Obj), Calls Tryd.prog 24 #[.agg #[.int .i64 x.kind, .slice X1 x.sites.length y1, .slice X2 x.starts.length y2, .int .i64 x.count, .int .i64 x.best, .int .i64 x.score], .agg #[.int .i64 r.kind, .slice A1 r.sites.length c1, .slice A2 r.starts.length c2, .int .i64 r.count, .int .i64 r.best, .int .i64 r.score]] (grow (wr.drewN n') os') fun e w' => e = .returned (.bool z) ∧ ∃ q os2, w' = grow ((grow (wr.drewN n') os').drewN q) os2 := fun n' os' => by
                      have hbX := below_grow wr n' os'
                      refine (rless_any _ _ x r _ (HXI.out.keep hbX) (HRI2.out.keep hbX)).mono ?_
                      rintro e w' ⟨rfl, q, os2, rfl⟩
                      exact ⟨by rw [hz], q, os2, rfl⟩
                    have lj : (j : Int) < ss.length := by omega
                    have dj : decide (j < ss.length) = true := by simpa using hjl
                    clear hz h4 h5 i3 hx k0 k1 k2 k3 k4 k5 q0 q1 q2 q3 q4 q5 hfw
                    cases z with
                    | true =>
                      go_wp2_with fail
                      go_quiet_grown (first | (go_at_call 24; exact Calls.grown_of (hc _ _)))
                      have HGX : Hid (Grew wo (grow (wr.drewN nq) osq)) := Lib.hid (HGR.out.trans ⟨nq, osq, rfl⟩)
                      generalize grow (wr.drewN nq) osq = w8 at HGX ⊢
                      clear nq osq g0 g1 g2 g3 g4 g5 p0 p1 p2 p3 p4 p5 hc
                      go_wp2_with fail
                      go_roundw
                      case rel => exact ⟨j + 1, by omega, by go_num, HGX, Lib.hid (fun i y hi hy => by
                        by_cases e : i = j
                        · subst e; rw [HXR.out] at hy; injection hy with hy; subst hy; exact HZ.out.symm
                        · exact HLS.out i y (by omega) hy)⟩
                      case measure => simp [intOf]; omega
                    | false =>
                      go_wp2_with fail
                      go_quiet_grown (first | (go_at_call 24; exact Calls.grown_of (hc _ _)))
                      have HGX : Hid (Grew wo (grow (wr.drewN nq) osq)) := Lib.hid (HGR.out.trans ⟨nq, osq, rfl⟩)
                      generalize grow (wr.drewN nq) osq = w8 at HGX ⊢
                      clear nq osq g0 g1 g2 g3 g4 g5 p0 p1 p2 p3 p4 p5 hc
                      have HLE : Hid (∀ y, (ss.map (·.1))[j]? = some y → lessR y r = false) := Lib.hid (fun y hy => by rw [HXR.out] at hy; injection hy with hy; subst hy; exact HZ.out.symm)
                      go_wp2_with fail
                      go_meet
                      exact ⟨j, hj, rfl, HGX, HLS, HLE⟩
                  · have dj : decide (j < ss.length) = false := by simpa using hjl
                    have HLE : Hid (∀ y, (ss.map (·.1))[j]? = some y → lessR y r = false) := Lib.hid (fun y hy => by rw [List.getElem?_eq_none (by rw [List.length_map]; omega)] at hy; cases hy)
                    go_wp2_with fail
                    go_quiet_grown (fail)
                    have HGX : Hid (Grew wo (grow (wr.drewN nq) osq)) := Lib.hid (HGR.out.trans ⟨nq, osq, rfl⟩)
                    generalize grow (wr.drewN nq) osq = w8 at HGX ⊢
                    clear nq osq
                    go_wp2_with fail
                    go_meet
                    exact ⟨j, hj, rfl, HGX, HLS, HLE⟩
              case rest =>
                obtain ⟨j, hj, rfl, HGX, HLS, HLE⟩ := hcut
                have HSS5 := Lib.hid (HSS4.out.keep HGX.out.below)
                have HFB5 : Hid (Blk wc fb 61 #[.int .i64 r.kind, .slice A1 r.sites.length c1, .slice A2 r.starts.length c2, .int .i64 r.count, .int .i64 r.best, .int .i64 r.score]) := Lib.hid (HFB.out.keep HGX.out.below)
                have HBL5 : Hid (Below w2.heap.size w2 wc) := Lib.hid (HBL4.out.trans (HGX.out.below.mono HBL4.out.size))
                clear HSS4 HFB HBL4 HRI HGX
                obtain ⟨A', c', hv, hsc, hscm, hrd5, hin5⟩ := HSS5.out
                injection hv with e1 _ e3
                subst e1 e3
                have HRD5 := Lib.hid hrd5
                have HIN5 := Lib.hid hin5
                have HR5 : Hid (Ints wc (.slice A1 r.sites.length c1) r.sites ∧ Ints wc (.slice A2 r.starts.length c2) r.starts ∧ r.ok) := Lib.hid ⟨HIQ.out.1.keep HBL5.out, HIQ.out.2.1.keep HBL5.out, HIQ.out.2.2⟩
                obtain ⟨dp, hcf, hdp⟩ := cut_fromR6 As ss.length cs j hj hsc
                have hct := cut_toR6 As ss.length cs j (by omega)
                have HDP := Lib.hid hdp
                obtain ⟨n9, hn9⟩ : ∃ n9, n9 = 1 + (ss.length - j) := ⟨_, rfl⟩
                have HN9 := Lib.hid hn9
                have HLD : Hid (((ss.drop j).flatMap Rep.cells).length = (ss.length - j) * 6) := Lib.hid (by rw [flat_len6, List.length_drop])
                have HLT : Hid (((ss.take j).flatMap Rep.cells).length = j * 6) := Lib.hid (by rw [flat_len6, List.length_take]; congr 1; omega)
                have HON : Hid (∀ u ∈ ss.flatMap Rep.cells, u.oneCell' = true) := Lib.hid (ones_rep HIN5.out)
                have HOD : Hid (∀ u ∈ (ss.drop j).flatMap Rep.cells, u.oneCell' = true) := Lib.hid (ones_rep fun q hq => HIN5.out q (List.mem_of_mem_drop hq))
                have HM1 : Hid (1 + (ss.length - j) ≤ maxLen) := by refine Lib.hid ?_; unfold maxLen; omega
                have HM2 : Hid ((1 + (ss.length - j)) * 80 ≤ 140737488355328) := by refine Lib.hid ?_; omega
                have HM3 : Hid (j + n9 ≤ maxLen) := by refine Lib.hid ?_; rw [hn9]; unfold maxLen; omega
                have HM4 : Hid ((j + n9) * 80 ≤ 140737488355328) := by refine Lib.hid ?_; rw [hn9]; omega
                have HJF : Hid (j < j + n9) := Lib.hid (by omega)
                have HRW : Hid (∀ w', Below wc.heap.size wc w' → Rd w' dp ((ss.drop j).flatMap Rep.cells)) := Lib.hid (fun w' hb => by
                  intro h0
                  rw [HLD.out] at h0
                  rw [HDP.out (by omega), flat_drop6]
                  have h1 := (HRD5.out.keep hb).drop (j * 6)
                  exact h1 (by rw [List.length_drop, flat_len6]; omega))
                have HOWL : Hid ((wc.alloc (.cells #[.int .i64 r.kind, .slice A1 r.sites.length c1, .slice A2 r.starts.length c2, .int .i64 r.count, .int .i64 r.best, .int .i64 r.score] 61)).drew.ownsRow wc.heap.size 61 6 (.slice (some ⟨wc.heap.size, 0, none⟩) 1 1) 1 [.int .i64 r.kind, .slice A1 r.sites.length c1, .slice A2 r.starts.length c2, .int .i64 r.count, .int .i64 r.best, .int .i64 r.score]) := Lib.hid (World.ownsRow_lit wc #[.int .i64 r.kind, .slice A1 r.sites.length c1, .slice A2 r.starts.length c2, .int .i64 r.count, .int .i64 r.best, .int .i64 r.score] 1 (Nat.le_refl _) (by simp [maxLen]) rfl)
                have HBA : Hid (Below wc.heap.size wc (wc.alloc (.cells #[.int .i64 r.kind, .slice A1 r.sites.length c1, .slice A2 r.starts.length c2, .int .i64 r.count, .int .i64 r.best, .int .i64 r.score] 61)).drew) := Lib.hid ((Below.refl _ _).alloc (Nat.le_refl _) _).drew
                have HSZ : Hid (wc.heap.size ≤ (wc.alloc (.cells #[.int .i64 r.kind, .slice A1 r.sites.length c1, .slice A2 r.starts.length c2, .int .i64 r.count, .int .i64 r.best, .int .i64 r.score] 61)).drew.heap.size) := Lib.hid HBA.out.size
                have q0 := HFB5.out.cell 0
                have q1 := HFB5.out.cell 1
                have q2 := HFB5.out.cell 2
                have q3 := HFB5.out.cell 3
                have q4 := HFB5.out.cell 4
                have q5 := HFB5.out.cell 5
                simp only [List.getElem?_toArray, List.getElem?_cons_zero, List.getElem?_cons_succ] at q0 q1 q2 q3 q4 q5
                clear hsc hscm hrd5 hin5 hdp hn9
                go_wp2_with fail
                go_region_law ((refine step_append_rdR rfl (.tmp 164) (.tmp 167) 48 rfl wc.heap.size 61 iR (.agg #[.int .i64 0, .slice none 0 0, .slice none 0 0, .int .i64 0, .int .i64 0, .int .i64 0]) 6 80 Tryd.underlying48 hiR hzR0 hzR1 hzR2 rfl (by decide) (.slice (some ⟨wc.heap.size, 0, none⟩) 1 1) 1 [.int .i64 r.kind, .slice A1 r.sites.length c1, .slice A2 r.starts.length c2, .int .i64 r.count, .int .i64 r.best, .int .i64 r.score] (by simp [Act.eval]) HOWL.out dp (ss.length - j) (cs - j) ((ss.drop j).flatMap Rep.cells) (by simp [Act.eval]) HLD.out (HRW.out _ HBA.out) HOD.out HM1.out HM2.out HSZ.out ?_; intro v9 w9 hown hg hat; have HO9 : Hid (w9.ownsRow wc.heap.size 61 6 v9 n9 ([.int .i64 r.kind, .slice A1 r.sites.length c1, .slice A2 r.starts.length c2, .int .i64 r.count, .int .i64 r.best, .int .i64 r.score] ++ (ss.drop j).flatMap Rep.cells)) := Lib.hid (by rw [HN9.out]; exact hown); obtain ⟨g9, c9, hv9⟩ := owns_some (by have := HN9.out; omega) HO9.out; subst hv9; have HB9 : Hid (Below wc.heap.size wc w9) := Lib.hid (HBA.out.grown hg HSZ.out fun g e => (HOWL.out.lt g e).1); clear hown hg hat))
                all_goals
                  clear q0 q1 q2 q3 q4 q5 hcf
                  have HRT : Hid (Rd w9 As ((ss.take j).flatMap Rep.cells)) := Lib.hid (by rw [flat_take6]; exact (HRD5.out.keep HB9.out).take (j * 6))
                  have HNONE : Hid (As = none → j = 0 ∧ j = 0) := Lib.hid (fun e => by
                    rcases Nat.eq_zero_or_pos j with h0 | h0
                    · exact ⟨h0, h0⟩
                    · obtain ⟨_, _, h1, _⟩ := HRT.out (by rw [HLT.out]; omega)
                      rw [e] at h1; cases h1)
                  have HOLDS : Hid (∀ b, As = some b → ∀ i u, ((ss.take j).flatMap Rep.cells)[i]? = some u → w9.cell? (b.add i) = some u) := Lib.hid (fun b e => HRT.out.adds w9 e)
                  have HNEWS : Hid (∀ i u, (([.int .i64 r.kind, .slice A1 r.sites.length c1, .slice A2 r.starts.length c2, .int .i64 r.count, .int .i64 r.best, .int .i64 r.score] : List Value) ++ (ss.drop j).flatMap Rep.cells)[i]? = some u → w9.cell? ((⟨g9, 0, none⟩ : Addr).add i) = some u) := Lib.hid (HO9.out.cells rfl)
                  have HLN9 : Hid ((([.int .i64 r.kind, .slice A1 r.sites.length c1, .slice A2 r.starts.length c2, .int .i64 r.count, .int .i64 r.best, .int .i64 r.score] : List Value) ++ (ss.drop j).flatMap Rep.cells).length = n9 * 6) := Lib.hid HO9.out.1
                  have HON9 : Hid (∀ u ∈ ([.int .i64 r.kind, .slice A1 r.sites.length c1, .slice A2 r.starts.length c2, .int .i64 r.count, .int .i64 r.best, .int .i64 r.score] : List Value) ++ (ss.drop j).flatMap Rep.cells, u.oneCell' = true) := Lib.hid (fun u hu => by
                    rcases List.mem_append.1 hu with hu | hu
                    · exact six_one _ _ _ _ _ _ _ _ _ _ u hu
                    · exact HOD.out u hu)
                  go_wp2_with (at_builtin; refine wpList_append_grows _ rfl (.tmp 172) (.tmp 173) 48 rfl 61 iR (.agg #[.int .i64 0, .slice none 0 0, .slice none 0 0, .int .i64 0, .int .i64 0, .int .i64 0]) 6 80 Tryd.underlying48 hiR hzR0 hzR1 hzR2 rfl (by decide) As j j ((ss.take j).flatMap Rep.cells) rfl HNONE.out HLT.out HOLDS.out ⟨g9, 0, none⟩ n9 c9 ([.int .i64 r.kind, .slice A1 r.sites.length c1, .slice A2 r.starts.length c2, .int .i64 r.count, .int .i64 r.best, .int .i64 r.score] ++ (ss.drop j).flatMap Rep.cells) rfl HLN9.out HNEWS.out HON9.out HJF.out HM3.out HM4.out ?_)
                  intro v10 w10 hown hg
                  have HO10 : Hid (w10.ownsRow w9.heap.size 61 6 v10 (j + n9) ((ss.take j ++ (r, .slice A1 r.sites.length c1, .slice A2 r.starts.length c2) :: ss.drop j).flatMap Rep.cells)) := Lib.hid (by
                    have e : (ss.take j ++ (r, .slice A1 r.sites.length c1, .slice A2 r.starts.length c2) :: ss.drop j).flatMap Rep.cells = (ss.take j).flatMap Rep.cells ++ ([.int .i64 r.kind, .slice A1 r.sites.length c1, .slice A2 r.starts.length c2, .int .i64 r.count, .int .i64 r.best, .int .i64 r.score] ++ (ss.drop j).flatMap Rep.cells) := by
                      rw [List.flatMap_append, List.flatMap_cons]; rfl
                    rw [e]
                    simpa using hown)
                  have HLS10 : Hid ((ss.take j ++ (r, (.slice A1 r.sites.length c1 : Value), (.slice A2 r.starts.length c2 : Value)) :: ss.drop j).length = j + n9) := Lib.hid (by rw [List.length_append, List.length_cons, List.length_take, List.length_drop, HN9.out]; omega)
                  have HB10 : Hid (Below wc.heap.size wc w10) := Lib.hid (HB9.out.trans ((Below.refl _ _).grown hg (Nat.le_refl _) (fun k e => by cases e) |>.mono HB9.out.size))
                  obtain ⟨A10, c10, hv10, hc10, hm10, hr10⟩ := owns_rd HO10.out
                  subst hv10
                  have HRES : Hid (RepsQ w10 (.slice A10 (ss.take j ++ (r, (.slice A1 r.sites.length c1 : Value), (.slice A2 r.starts.length c2 : Value)) :: ss.drop j).length c10) (ss.take j ++ (r, .slice A1 r.sites.length c1, .slice A2 r.starts.length c2) :: ss.drop j)) := Lib.hid ⟨A10, c10, rfl, by rw [HLS10.out]; exact hc10, hm10, hr10, fun q hq => by
                    rcases List.mem_append.1 hq with hq | hq
                    · have h := HIN5.out q (List.mem_of_mem_take hq)
                      exact ⟨h.1.keep HB10.out, h.2.1.keep HB10.out, h.2.2⟩
                    · rcases List.mem_cons.1 hq with rfl | hq
                      · exact ⟨HR5.out.1.keep HB10.out, HR5.out.2.1.keep HB10.out, HR5.out.2.2⟩
                      · have h := HIN5.out q (List.mem_of_mem_drop hq)
                        exact ⟨h.1.keep HB10.out, h.2.1.keep HB10.out, h.2.2⟩⟩
                  have HSN : Hid ((ss.take j ++ (r, (.slice A1 r.sites.length c1 : Value), (.slice A2 r.starts.length c2 : Value)) :: ss.drop j).map (·.1) = sortR ((qi.map (·.1)).take (m + 1))) := Lib.hid (by
                    have hqm1 : (qi.map (·.1))[m]? = some r := by rw [List.getElem?_map, HQQ.out]; rfl
                    rw [take_succ_of hqm1, sortR_snoc, ← HSO.out, insR_at (i := j) (by rw [List.length_map]; exact hj) HLS.out HLE.out, List.map_append, List.map_cons, List.map_take, List.map_drop])
                  have HBN : Hid (Below w2.heap.size w2 w10) := Lib.hid (HBL5.out.trans (HB10.out.mono HBL5.out.size))
                  clear hown hg hc10 hm10 hr10 hct
                  go_wp2_with fail
                  go_roundw
                  case rel => exact ⟨m + 1, _, A10, c10, by omega, by go_num, by rw [HLS10.out], HRES, HSN, HBN⟩
                  case measure => simp [intOf]; omega
            · have hme : m = N := by omega
              have HFI : Hid (IsReports ps (ss.map (·.1))) := Lib.hid (by
                rw [HSO.out, hme, List.take_of_length_le (by rw [List.length_map]; omega), HRR.out]
                exact sortR_reports HGA.out)
              have lm : ¬ (m : Int) < N := by omega
              clear hme
              go_wp2_with fail
              go_ret
              exact ⟨_, ss, rfl, HSS3.out, HFI.out, HBW.out.trans (HBL.out.mono HBW.out.size)⟩
end Go.Proofs.YtccpelfnkjckiaaDoor
