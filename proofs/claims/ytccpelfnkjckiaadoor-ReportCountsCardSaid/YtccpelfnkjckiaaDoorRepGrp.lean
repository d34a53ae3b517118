/-
  WALK: report.Group.
-/
import Derived.Test.YtccpelfnkjckiaaDoorRepG0
import Derived.Deep.CutBlock
namespace Go.Proofs.YtccpelfnkjckiaaDoor
open Go.RowKit Go.Sort

set_option maxRecDepth 100000 in
set_option maxHeartbeats 8000000 in
theorem group_any (ps : List (Fnd × FndM)) (A : Option Addr) (c : Nat) (w : World) (hr : Rd w A (ps.flatMap Fnd.cells)) (hok : ∀ q ∈ ps, FndOk w q) (hps : ps.length ≤ 1000000) (hss : ∀ q ∈ ps, q.1.sites.length ≤ 1000000) :
    Calls Tryd.prog 21 #[.slice A ps.length c] w (GrpRet w ps) := by
  have HR := Lib.hid hr
  have HOK := Lib.hid hok
  have HSS := Lib.hid hss
  clear hr hok hss
  obtain ⟨iI, hiI, hzI0, hzI1, hzI2⟩ := info_parts info_int
  go_enter Tryd.func21, Tryd.ntmps21
  go_wp2_with fail
  go_loopw [3, 11] (fun ov kv wr => ∃ k : Nat, k ≤ ps.length ∧ kv = .int .i64 k ∧ Hid (GSt w wr (.slice A ps.length c) ov (foundTo (ps.map (·.1)) k))) (fun _ kv _ => ps.length - (intOf kv).toNat)
  case atStart => exact ⟨0, by omega, rfl, Lib.hid ⟨(Below.refl _ _).alloc (Nat.le_refl _) _, Blk.new _ _ _, by simp, ⟨World.ownsRow_nil _ _ _ _, by simp [foundTo]⟩⟩⟩
  case round =>
    obtain ⟨k, hk, rfl, HST⟩ := hrel
    by_cases hlt : k < ps.length
    · obtain ⟨p, hp⟩ : ∃ q, ps[k]? = some q := ⟨_, List.getElem?_eq_getElem hlt⟩
      obtain ⟨b, off, rfl, hbl, hci⟩ := Fnds.at_ (HR.out.keep HST.out.bl) hp
      have HPP := Lib.hid hp
      obtain ⟨p, pm⟩ := p
      obtain ⟨k0, k1, k2, k3, k4, k5, k6, k7, k8, k9, k10, k11⟩ := hci
      simp only at k0 k1 k2 k3 k4 k5 k6 k7 k8 k9 k10 k11
      have li : (k : Int) < ps.length := by omega
      obtain ⟨Ao, co, hov, -, -, -⟩ := owns_rd HST.out.own.1
      subst hov
      have HEX : Hid (foundTo (ps.map (·.1)) (k + 1) = foundTo (ps.map (·.1)) k ++ if p.found then [k] else []) := Lib.hid (by
        rw [foundTo_succ, List.getElem?_map, HPP.out]; rfl)
      clear hp
      cases hf : p.found with
      | false =>
        rw [hf] at k7
        have HE2 : Hid (foundTo (ps.map (·.1)) (k + 1) = foundTo (ps.map (·.1)) k) := Lib.hid (by rw [HEX.out, hf]; simp)
        have HF := Lib.hid hf
        clear hf
        go_wp2_with fail
        go_roundw
        case rel => exact ⟨k + 1, by omega, by go_num, Lib.hid (by rw [HE2.out]; exact HST.out.alloc _)⟩
        case measure => simp [intOf]; omega
      | true =>
        rw [hf] at k7
        have HE2 : Hid (foundTo (ps.map (·.1)) (k + 1) = foundTo (ps.map (·.1)) k ++ [k]) := Lib.hid (by rw [HEX.out, hf]; rfl)
        have HFL : Hid ((foundTo (ps.map (·.1)) k).length ≤ k) := Lib.hid (foundTo_len _ _)
        clear hf
        obtain ⟨xs, hxs⟩ : ∃ xs, xs = foundTo (ps.map (·.1)) k := ⟨_, rfl⟩
        rw [← hxs] at HST HFL HE2 ⊢
        rw [List.length_map] at HST ⊢
        clear hxs
        have HST1 : Hid (GSt w (wr.alloc (.cells #[.int .i64 p.start, .int .i64 p.kind, .int .i64 pm.a, .int .i64 pm.b, .int .i64 pm.c, .int .i64 pm.d, .slice pm.cA pm.cn pm.cc, .bool true, .slice pm.wA p.wl pm.wc, .slice pm.pA pm.pn pm.pc, .int .i64 pm.r, .slice pm.sA p.sites.length pm.sc] 58)) (.slice (some ⟨b, off, none⟩) ps.length c) (.slice Ao xs.length co) xs) := Lib.hid (HST.out.alloc _)
        have HOW : Hid ((wr.alloc (.cells #[.int .i64 p.start, .int .i64 p.kind, .int .i64 pm.a, .int .i64 pm.b, .int .i64 pm.c, .int .i64 pm.d, .slice pm.cA pm.cn pm.cc, .bool true, .slice pm.wA p.wl pm.wc, .slice pm.pA pm.pn pm.pc, .int .i64 pm.r, .slice pm.sA p.sites.length pm.sc] 58)).ownsRow (w.heap.size + 1) 3 1 (.slice Ao xs.length co) xs.length ((xs.map fun x => ((x : Nat) : Int)).map (Value.int .i64))) := Lib.hid (by have h := HST1.out.own.1; rwa [List.length_map] at h)
        have HNW : Hid (∀ j x, [Value.int .i64 (k : Int)][j]? = some x → ((wr.alloc (.cells #[.int .i64 p.start, .int .i64 p.kind, .int .i64 pm.a, .int .i64 pm.b, .int .i64 pm.c, .int .i64 pm.d, .slice pm.cA pm.cn pm.cc, .bool true, .slice pm.wA p.wl pm.wc, .slice pm.pA pm.pn pm.pc, .int .i64 pm.r, .slice pm.sA p.sites.length pm.sc] 58)).alloc (.cells #[.int .i64 (k : Int)] 3)).cell? ((⟨wr.heap.size + 1, 0, none⟩ : Addr).add j) = some x) := Lib.hid (cells_at (wr.alloc (.cells #[.int .i64 p.start, .int .i64 p.kind, .int .i64 pm.a, .int .i64 pm.b, .int .i64 pm.c, .int .i64 pm.d, .slice pm.cA pm.cn pm.cc, .bool true, .slice pm.wA p.wl pm.wc, .slice pm.pA pm.pn pm.pc, .int .i64 pm.r, .slice pm.sA p.sites.length pm.sc] 58)) 3 [.int .i64 (k : Int)] (by simp))
        have HO1 : Hid (∀ u ∈ ([.int .i64 (k : Int)] : List Value), u.oneCell' = true) := by
          refine Lib.hid ?_
          intro u hu; simp at hu; subst hu; rfl
        have HM1 : Hid (xs.length + 1 ≤ maxLen) := by refine Lib.hid ?_; have := HFL.out; unfold maxLen; omega
        have HM2 : Hid ((xs.length + 1) * 8 ≤ 140737488355328) := by refine Lib.hid ?_; have := HFL.out; omega
        have HM3 : Hid (w.heap.size + 1 ≤ ((wr.alloc (.cells #[.int .i64 p.start, .int .i64 p.kind, .int .i64 pm.a, .int .i64 pm.b, .int .i64 pm.c, .int .i64 pm.d, .slice pm.cA pm.cn pm.cc, .bool true, .slice pm.wA p.wl pm.wc, .slice pm.pA pm.pn pm.pc, .int .i64 pm.r, .slice pm.sA p.sites.length pm.sc] 58)).alloc (.cells #[.int .i64 (k : Int)] 3)).heap.size) := by
          refine Lib.hid ?_
          have := HST.out.hi
          simp; omega
        go_wp2_with (at_builtin; refine wpList_append_own_at _ rfl _ _ 33 rfl (w.heap.size + 1) 3 iI (.int .i64 0) 1 8 Tryd.underlying33 hiI hzI0 hzI1 hzI2 rfl (by decide) _ _ _ rfl (HOW.out.alloc _) ⟨wr.heap.size + 1, 0, none⟩ 1 1 [.int .i64 (k : Int)] rfl rfl HNW.out HO1.out HM1.out HM2.out HM3.out ?_; intro v4 w4 hown hg _ hat; have HST4 := Lib.hid (HST1.out.push (x := k) (by omega) hown hg); clear hown hg hat)
        refine ⟨⟨k + 1, by omega, by go_num, Lib.hid (by rw [HE2.out]; exact HST4.out)⟩, by simp [intOf]; omega⟩
    · obtain rfl : k = ps.length := by omega
      obtain ⟨Ao, co, hov, -, -, -⟩ := owns_rd HST.out.own.1
      subst hov
      obtain ⟨xs, hxs⟩ : ∃ xs, xs = foundTo (ps.map (·.1)) ps.length := ⟨_, rfl⟩
      have HXS := Lib.hid hxs
      rw [← hxs] at HST ⊢
      rw [List.length_map] at HST ⊢
      clear hxs
      by_cases hx0 : xs.length = 0
      · rw [hx0] at HST ⊢
        have HX0 := Lib.hid (List.eq_nil_of_length_eq_zero hx0)
        clear hx0
        have lk : ¬ (ps.length : Int) < ps.length := by omega
        go_wp2_with fail
        refine (sortStable_none _ _ _ _).mono ?_
        rintro e w1 ⟨rfl, rfl⟩
        go_wp2_with fail
        go_loopw [3, 7] (fun va vb wr => va = .slice Ao 0 co ∧ vb = .slice none 0 0 ∧ wr = w1) (fun _ _ _ => 0)
        case atStart => exact ⟨rfl, rfl, rfl⟩
        case round =>
          obtain ⟨rfl, rfl, rfl⟩ := hrel
          go_wp2_with fail
          refine (sortReps_none _ _ _ _).mono ?_
          rintro e w2 ⟨rfl, rfl⟩
          go_wp2_with fail
          go_ret
          exact ⟨_, [], rfl, OwnReps.nil _ _ _, ⟨[], List.Perm.refl _, by simp, by simp, by rw [← HXS.out, HX0.out]; simp, by simp, by simp⟩, HST.out.bl⟩
      · obtain ⟨g, hAg⟩ : ∃ g, Ao = some ⟨g, 0, none⟩ := by
          rcases owns_shape HST.out.own.1 with ⟨-, h1, -⟩ | ⟨g, cap, h1⟩
          · rw [List.length_map] at h1; omega
          · injection h1 with h1 _ _; exact ⟨g, h1⟩
        subst hAg
        have hx1 : 0 < xs.length := by omega
        have HXL : Hid (xs.length ≤ ps.length) := Lib.hid (by rw [HXS.out]; exact foundTo_len _ _)
        have hp0 : 0 < ps.length := by have := HXL.out; omega
        have hxm : xs.length ≤ 1000000 := by have := HXL.out; omega
        clear hx0
        have lk : ¬ (ps.length : Int) < ps.length := by omega
        have HXX : Hid ((∀ x ∈ xs, x < ps.length) ∧ xs.Pairwise (· < ·)) := Lib.hid (by rw [HXS.out]; exact ⟨foundTo_lt _ _, foundTo_asc _ _⟩)
        go_wp2_with fail
        refine (sortOrder_any ps A c w.heap.size g xs.length co (w.heap.size + 1) xs w wr HST.out.bl HR.out HOK.out HST.out.lb (by omega) (by omega) HST.out.own HXX.out.1 HXX.out.2 rfl hp0 hxm).mono ?_
        rintro e w1 ⟨rfl, hg1, ys, hoy, hpy, hsy⟩
        have hyl : ys.length = xs.length := hpy.length_eq
        have HYL := Lib.hid hyl
        have HG2 : Hid (G2St w w1 w1.heap.size (.slice A ps.length c) (.slice (some ⟨g, 0, none⟩) ys.length co) (.slice none 0 0) ys []) := by
          have hgb : w.heap.size + 1 ≤ g := (HST.out.own.1.lt g rfl).1
          refine Lib.hid ⟨HST.out.bl.grown hg1 HST.out.bl.size fun k e => by injection e with e; omega, HST.out.lb.grown hg1 (by simp; omega), by have := hg1.size; have := HST.out.hi; omega, Nat.le_refl _, ?_, OwnReps.nil _ _ _⟩
          rw [hyl]
          exact hoy.intsO fun b _ hb _ => hb
        have HPY := Lib.hid hpy
        have HSY := Lib.hid hsy
        rw [← hyl]
        clear hg1 hoy hpy hsy hyl HST
        generalize w1.heap.size = N1 at HG2
        go_wp2_with fail
        go_loopw [3, 7] (fun va vb wr => ∃ (A' : Option Addr) (c' : Nat) (os : List Nat) (gs : List (List Nat)) (qs : List (Rep × Value × Value)), va = .slice A' os.length c' ∧ Hid (G2St w wr N1 (.slice A ps.length c) va vb os qs) ∧ Hid (DoneG ps ys gs os) ∧ Hid (qs.map (·.1) = gs.map (repOf (ps.map (·.1)))) ∧ Hid (qs.length + os.length ≤ ys.length)) (fun va _ _ => lenOf va)
        case atStart => exact ⟨_, _, ys, [], [], rfl, HG2, Lib.hid ⟨rfl, by simp, by simp, by simp, by simp⟩, Lib.hid rfl, Lib.hid (by simp)⟩
        case round =>
          obtain ⟨Ab, cb, os, gs, qs, rfl, HS2, HDG, HQG, HLN⟩ := hrel
          by_cases ho0 : os.length = 0
          · have HOS := Lib.hid (List.eq_nil_of_length_eq_zero ho0)
            rw [ho0]
            have HGR : Hid (IsGroups ps gs) := Lib.hid ((HOS.out ▸ HDG.out : DoneG ps ys gs []).groups (HXS.out ▸ HPY.out))
            obtain ⟨Aq, cq, hoq, hq1, hq2, -⟩ := owns_rd HS2.out.out.1
            subst hoq
            clear ho0
            go_wp2_with fail
            by_cases hq0 : qs.length = 0
            · have HQN := Lib.hid (List.eq_nil_of_length_eq_zero hq0)
              rw [hq0]
              rw [hq0] at HS2
              clear hq0
              refine (sortReps_none _ _ _ _).mono ?_
              rintro e w2 ⟨rfl, rfl⟩
              go_wp2_with fail
              go_ret
              exact ⟨_, qs, rfl, HS2.out.out.base (by have := HS2.out.n1; omega) fun b _ hb => by have := HS2.out.n1; omega, ⟨gs, by rw [HQG.out], by rw [HQN.out]; simp, HGR.out⟩, HS2.out.bl⟩
            · obtain ⟨gq, hAq⟩ : ∃ gq, Aq = some ⟨gq, 0, none⟩ := by
                rcases owns_shape HS2.out.out.1 with ⟨-, h1, -⟩ | ⟨gq, cap, h1⟩
                · omega
                · injection h1 with h1 _ _; exact ⟨gq, h1⟩
              subst hAq
              have HQL : Hid (qs.length ≤ 1000000) := Lib.hid (by have h1 := HLN.out; have h2 := HYL.out; omega)
              refine (sortRow_any N1 gq qs.length cq (fun b => N1 ≤ b) qs _ HS2.out.out rfl (by omega) HQL.out).mono ?_
              rintro e w2 ⟨rfl, hg2, qs', ho', hp', hs'⟩
              have HFIN : Hid (OwnReps w2 w.heap.size (fun b => w.heap.size ≤ b) (.slice (some ⟨gq, 0, none⟩) qs.length cq) qs' ∧ IsReports ps (qs'.map (·.1)) ∧ Below w.heap.size w w2) := Lib.hid (by
                have e1 := HS2.out.n1
                have e2 : N1 ≤ gq := (HS2.out.out.1.lt gq rfl).1
                refine ⟨ho'.base (by omega) fun b _ hb => by omega, ⟨gs, ?_, hs', HGR.out⟩, HS2.out.bl.grown hg2 HS2.out.bl.size fun k e => by injection e with e; omega⟩
                rw [← HQG.out]
                exact hp'.map _)
              clear hg2 ho' hp' hs'
              go_wp2_with fail
              go_ret
              exact ⟨_, qs', rfl, HFIN.out.1, HFIN.out.2.1, HFIN.out.2.2⟩
          · have hol : 0 < os.length := by omega
            clear ho0
            obtain ⟨o0, ho0⟩ : ∃ x, os[0]? = some x := ⟨_, List.getElem?_eq_getElem hol⟩
            obtain ⟨bo, oo, hAb, hoc⟩ : ∃ bo oo, Ab = some ⟨bo, oo, none⟩ ∧ bo < wr.heap.size ∧ bo < N1 ∧ ∀ j x, os[j]? = some x → wr.cell? ⟨bo, oo + j, none⟩ = some (.int .i64 ((x : Nat) : Int)) := by
              obtain ⟨A2, c2, hv, -, -, -, h5⟩ := HS2.out.ord
              injection hv with e1 e2 e3
              obtain ⟨b2, o2, q1, q2, q3, q4⟩ := h5 (by rw [List.length_map]; exact hol)
              exact ⟨b2, o2, e1.trans q1, q2, q3, fun j x hj => q4 j _ (by rw [List.getElem?_map, List.getElem?_map, hj]; rfl)⟩
            subst hAb
            have HOC := Lib.hid hoc
            have HO0 := Lib.hid ho0
            have HOP : Hid (∀ x ∈ os, x < ps.length) := Lib.hid (fun x hx => HXX.out.1 x (HPY.out.mem_iff.1 (by rw [← HDG.out.1]; exact List.mem_append_right _ hx)))
            have ho0l : o0 < ps.length := HOP.out o0 (List.mem_of_getElem? ho0)
            obtain ⟨p0, hp0'⟩ : ∃ q, ps[o0]? = some q := ⟨_, List.getElem?_eq_getElem ho0l⟩
            have HP0 := Lib.hid hp0'
            have HOL : Hid (os.length ≤ 1000000) := Lib.hid (by have h1 := HLN.out; have h2 := HYL.out; omega)
            have hol6 := HOL.out
            clear hoc ho0 hp0'
            have mixed : Tryd.prog.follows .mixedOrders = true := by kernel_rfl
            obtain ⟨wo, rfl⟩ : ∃ wo : World, wo = wr := ⟨_, rfl⟩
            go_upto_block 4 with fail
            go_cut [8] from 28 to 59 (fun nv wx => ∃ n : Nat, 1 ≤ n ∧ n ≤ os.length ∧ nv = .int .i64 n ∧ Hid (Grew wo wx) ∧ Hid (∀ j x, j < n → os[j]? = some x → keyI ps x = keyI ps o0) ∧ Hid (∀ x, os[n]? = some x → keyI ps x ≠ keyI ps o0))
            case first =>
              go_wp2_with fail
              go_loopw [8] (fun nv wr => ∃ n : Nat, 1 ≤ n ∧ n ≤ os.length ∧ nv = .int .i64 n ∧ Hid (Grew wo wr) ∧ Hid (∀ j x, j < n → os[j]? = some x → keyI ps x = keyI ps o0)) (fun nv _ => os.length - (intOf nv).toNat)
              case atStart => exact ⟨1, by omega, by omega, rfl, Lib.hid (Grew.refl _), Lib.hid (fun j x hj hx => by obtain rfl : j = 0 := (by omega); rw [HO0.out] at hx; injection hx with hx; rw [hx])⟩
              case round =>
                obtain ⟨n, hn1, hn2, rfl, HGR, HKS⟩ := hrel
                have HSW := Lib.hid (HS2.out.keep HGR.out.below)
                have lbl : w.heap.size < wr.heap.size := HSW.out.lb.lt
                have HCL : Hid (∀ (n' : Nat) (os' : Array Obj), (grow (wr.drewN n') os').cell? ⟨w.heap.size, 0, none⟩ = some (.slice A ps.length c)) := Lib.hid (fun n' os' => by
                  have h := (HSW.out.lb.keep (below_grow wr n' os')).cell 0
                  simpa using h)
                have hbo : bo < wr.heap.size := Nat.lt_of_lt_of_le HOC.out.1 HGR.out.below.size
                by_cases hlt : n < os.length
                · obtain ⟨on, hon⟩ : ∃ x, os[n]? = some x := ⟨_, List.getElem?_eq_getElem hlt⟩
                  have honl : on < ps.length := HOP.out on (List.mem_of_getElem? hon)
                  obtain ⟨pn, hpn⟩ : ∃ q, ps[on]? = some q := ⟨_, List.getElem?_eq_getElem honl⟩
                  have HON := Lib.hid hon
                  have HPN := Lib.hid hpn
                  clear hon hpn
                  have x0 : wr.cell? ⟨bo, oo, none⟩ = some (.int .i64 (o0 : Int)) := (HGR.out.below.cell (p := ⟨bo, oo, none⟩) HOC.out.1).trans (HOC.out.2.2 0 o0 HO0.out)
                  have x1 : wr.cell? ⟨bo, oo + n, none⟩ = some (.int .i64 (on : Int)) := (HGR.out.below.cell (p := ⟨bo, oo + n, none⟩) HOC.out.1).trans (HOC.out.2.2 n on HON.out)
                  have c0 := fun n' os' => cell_grown (a := ⟨bo, oo, none⟩) hbo x0 n' os'
                  have c1 := fun n' os' => cell_grown (a := ⟨bo, oo + n, none⟩) hbo x1 n' os'
                  have hc : ∀ (n' : Nat) (os' : Array Obj), Calls Tryd.prog 37 #[.int .i64 (o0 : Int), .int .i64 (on : Int), .pointer (some ⟨w.heap.size, 0, none⟩)] (grow (wr.drewN n') os') fun e w' => e = .returned (.int .i64 (cmpF p0.1 pn.1)) ∧ ∃ q os2, w' = grow ((grow (wr.drewN n') os').drewN q) os2 := fun n' os' => by
                    have hbX := below_grow wr n' os'
                    have hc0 := HCL.out n' os'
                    have hlX : w.heap.size < (grow (wr.drewN n') os').heap.size := Nat.lt_of_lt_of_le lbl hbX.size
                    have hbw : Below w.heap.size w (grow (wr.drewN n') os') := HSW.out.bl.trans (hbX.mono HSW.out.bl.size)
                    refine (group1_any w.heap.size _ ps A c o0 on p0 pn _ hlX hc0 rfl (HR.out.keep hbw) (fun q hq => (HOK.out q hq).keep hbw) HP0.out HPN.out).mono ?_
                    rintro e w' ⟨rfl, q, os2, rfl⟩
                    exact ⟨rfl, q, os2, rfl⟩
                  have eg : ∀ args w, (callFunc 37 args).run Tryd.prog w = .ok (.enter 37 args) w := fun args w => by kernel_rfl
                  obtain ⟨z, hz⟩ : ∃ z, z = cmpF p0.1 pn.1 := ⟨_, rfl⟩
                  rw [← hz] at hc
                  have HZ := Lib.hid hz
                  clear x0 x1 hz
                  have hd1 : decide (n < os.length) = true := by simpa using hlt
                  have b0 : (0 : Int) < os.length := by omega
                  have b1 : (n : Int) < os.length := by omega
                  by_cases hz0 : z = 0
                  · have hzb : (z == 0) = true := by simpa using hz0
                    have HZ0 := Lib.hid hz0
                    clear hz0
                    go_wp2_with fail
                    go_quiet_grown (first | (go_at_fn 37; refine Calls.grown_of (hc _ _)))
                    clear c0 c1 hc eg
                    have HGX : Hid (Grew wo (grow (wr.drewN nq) osq)) := Lib.hid (HGR.out.trans ⟨nq, osq, rfl⟩)
                    generalize grow (wr.drewN nq) osq = w2 at HGX ⊢
                    clear nq osq
                    go_wp2_with fail
                    go_roundw
                    case rel =>
                      refine ⟨n + 1, by omega, by omega, by go_num, HGX, Lib.hid fun j x hj hx => ?_⟩
                      by_cases hjn : j = n
                      · subst hjn
                        rw [HON.out] at hx
                        injection hx with hx
                        subst hx
                        have h0 : cmpF p0.1 pn.1 = 0 := by rw [← HZ.out]; exact HZ0.out
                        rw [cmpF_key, cmpL_eq] at h0
                        unfold keyI
                        rw [HPN.out, HP0.out]
                        simp [h0]
                      · exact HKS.out j x (by omega) hx
                    case measure => simp [intOf]; omega
                  · have hzb : (z == 0) = false := by simpa using hz0
                    have HZ0 := Lib.hid hz0
                    clear hz0
                    go_wp2_with fail
                    go_quiet_grown (first | (go_at_fn 37; refine Calls.grown_of (hc _ _)))
                    clear c0 c1 hc eg
                    have HGX : Hid (Grew wo (grow (wr.drewN nq) osq)) := Lib.hid (HGR.out.trans ⟨nq, osq, rfl⟩)
                    generalize grow (wr.drewN nq) osq = w2 at HGX ⊢
                    clear nq osq
                    have HKE : Hid (∀ x, os[n]? = some x → keyI ps x ≠ keyI ps o0) := Lib.hid (fun x hx => by
                      rw [HON.out] at hx
                      injection hx with hx
                      subst hx
                      unfold keyI
                      rw [HPN.out, HP0.out]
                      intro e
                      simp at e
                      apply HZ0.out
                      rw [HZ.out, cmpF_key, cmpL_eq]
                      exact e.symm)
                    go_wp2_with fail
                    go_meet
                    exact ⟨n, hn1, hn2, rfl, HGX, HKS, HKE⟩
                · obtain rfl : n = os.length := by omega
                  have hd1 : decide (os.length < os.length) = false := by simp
                  clear hlt
                  go_wp2_with fail
                  go_quiet (fail)
                  have HGX : Hid (Grew wo (wr.drewN nq)) := Lib.hid (HGR.out.drewN nq)
                  generalize wr.drewN nq = w2 at HGX ⊢
                  clear nq
                  have HKE : Hid (∀ x, os[os.length]? = some x → keyI ps x ≠ keyI ps o0) := Lib.hid (fun x hx => by rw [List.getElem?_eq_none (Nat.le_refl _)] at hx; cases hx)
                  go_wp2_with fail
                  go_meet
                  exact ⟨os.length, hn1, hn2, rfl, HGX, HKS, HKE⟩
            case rest =>
              obtain ⟨n, hn1, hn2, rfl, HGX, HKS, HKE⟩ := hcut
              have HSX := Lib.hid (HS2.out.keep HGX.out.below)
              obtain ⟨Aq, cq, hoq, hq1, hq2, -⟩ := owns_rd HSX.out.out.1
              subst hoq
              have HQL : Hid (qs.length + 1 ≤ 1000000) := Lib.hid (by have h1 := HLN.out; have h2 := HYL.out; omega)
              have HIN : Hid (Ints wc (.slice (some ⟨bo, oo, none⟩) n cb) ((os.take n).map fun x => ((x : Nat) : Int))) := Lib.hid (by
                obtain ⟨A2, c2, hv, h2, h3, h4, h5⟩ := HSX.out.ord
                injection hv with e1 e2 e3
                subst e3
                rw [List.length_map] at h2
                refine ⟨_, cb, by rw [List.length_map, List.length_take, Nat.min_eq_left hn2], by rw [List.length_map, List.length_take]; omega, h3, fun x hx => ?_, fun h0 => ?_⟩
                · exact h4 x (by rw [List.map_take] at hx; exact List.mem_of_mem_take hx)
                · refine ⟨bo, oo, rfl, Nat.lt_of_lt_of_le HOC.out.1 HGX.out.below.size, fun j u hu => ?_⟩
                  rw [List.map_take, List.map_take] at hu
                  have hj : j < n := by have := (List.getElem?_eq_some_iff.1 hu).1; rw [List.length_take] at this; omega
                  rw [List.getElem?_take_of_lt hj, List.getElem?_map, List.getElem?_map] at hu
                  cases hj2 : os[j]? with
                  | none => rw [hj2] at hu; simp at hu
                  | some x =>
                    rw [hj2] at hu
                    simp at hu
                    subst hu
                    exact (HGX.out.below.cell (p := ⟨bo, oo + j, none⟩) HOC.out.1).trans (HOC.out.2.2 j x hj2))
              have hcb : os.length ≤ cb := by
                obtain ⟨A2, c2, hv, h2, -⟩ := HSX.out.ord
                injection hv with e1 e2 e3
                rw [List.length_map] at h2; omega
              have HMX : Hid (cb ≤ maxLen) := Lib.hid (by
                obtain ⟨A2, c2, hv, h2, h3, -⟩ := HSX.out.ord
                injection hv with e1 e2 e3
                rw [e3]; exact h3)
              have HTL : Hid ((os.take n).length = n) := Lib.hid (by rw [List.length_take]; omega)
              have HSOF : Hid (∀ w', Below wc.heap.size wc w' → w'.cell? ⟨w.heap.size, 0, none⟩ = some (.slice A ps.length c) ∧ Below wc.heap.size wc w') := Lib.hid (fun w' hb => ⟨by have h := (HSX.out.lb.keep hb).cell 0; simpa using h, hb⟩)
              have HSUM : Hid (Calls Tryd.prog 42 #[.slice A ps.length c, .slice (some ⟨bo, oo, none⟩) n cb] wc.drew fun e w' => ∃ A5 c5 A6 c6, e = .returned (.agg #[.int .i64 (repOf (ps.map (·.1)) (os.take n)).kind, .slice A5 (repOf (ps.map (·.1)) (os.take n)).sites.length c5, .slice A6 (repOf (ps.map (·.1)) (os.take n)).starts.length c6, .int .i64 (repOf (ps.map (·.1)) (os.take n)).count, .int .i64 (repOf (ps.map (·.1)) (os.take n)).best, .int .i64 (repOf (ps.map (·.1)) (os.take n)).score]) ∧ (IntsO w' (fun b => wc.heap.size < b) (.slice A5 (repOf (ps.map (·.1)) (os.take n)).sites.length c5) (repOf (ps.map (·.1)) (os.take n)).sites ∧ IntsO w' (fun b => wc.heap.size < b) (.slice A6 (repOf (ps.map (·.1)) (os.take n)).starts.length c6) (repOf (ps.map (·.1)) (os.take n)).starts ∧ (repOf (ps.map (·.1)) (os.take n)).ok) ∧ Below wc.heap.size wc w') := Lib.hid (by
                have hbw : Below w.heap.size w wc.drew := HSX.out.bl.drew
                refine (summary_any ps A c _ (os.take n) wc.drew (HR.out.keep hbw) (fun q hq => (HOK.out q hq).keep hbw) (HIN.out.keep (Below.refl _ _).drew) (fun i hi => HOP.out i (List.mem_of_mem_take hi)) (by rw [HTL.out]; omega) (by rw [HTL.out]; omega) hps HSS.out).mono ?_
                rintro e w' ⟨v, rfl, hrep, hb⟩
                obtain ⟨sv, tv, rfl, h1, h2, h3⟩ := hrep
                obtain ⟨A5, c5, rfl, -⟩ := h1.ints
                obtain ⟨A6, c6, rfl, -⟩ := h2.ints
                exact ⟨A5, c5, A6, c6, rfl, ⟨h1, h2, h3⟩, Below.trans (Below.refl _ _).drew hb⟩)
              have HFRB : Hid (∀ (W : World) (v : Value) (xs : List Int), IntsO W (fun b => wc.heap.size < b) v xs → IntsO W (fun b => N1 ≤ b ∧ some b ≠ (Value.slice Aq qs.length cq).ownBlock) v xs) := Lib.hid (fun W v xs h => h.mono fun b _ hb => ⟨by have := HSX.out.n2; omega, fun e => by have := (HSX.out.out.1.lt b e.symm).2; omega⟩)
              have HDN : Hid (DoneG ps ys (gs ++ [os.take n]) (os.drop n)) := Lib.hid (HDG.out.step HSY.out HO0.out hn1 hn2 HKS.out HKE.out)
              obtain ⟨rr, hrr⟩ : ∃ rr, rr = repOf (ps.map (·.1)) (os.take n) := ⟨_, rfl⟩
              rw [← hrr] at HSUM
              have HRR := Lib.hid hrr
              clear hrr
              have l1 : (0 : Int) ≤ n := by omega
              have l2 : (n : Int) ≤ cb := by omega
              obtain ⟨iR, hiR, hzR0, hzR1, hzR2⟩ := info_parts info_rep
              have HS0 : Hid (wc.drew.cell? ⟨w.heap.size, 0, none⟩ = some (.slice A ps.length c)) := Lib.hid (HSOF.out _ (Below.refl _ _).drew).1
              have HM1 : Hid (qs.length + 1 ≤ maxLen) := by refine Lib.hid ?_; have := HQL.out; unfold maxLen; omega
              have HM2 : Hid ((qs.length + 1) * 80 ≤ 140737488355328) := by refine Lib.hid ?_; have := HQL.out; omega
              go_wp2_with fail
              go_region_held3 (fun w' => w'.cell? ⟨w.heap.size, 0, none⟩ = some (.slice A ps.length c)) (first | with_reducible assumption | with_reducible exact HS0.out | with_reducible exact HAL.out _) (first
                | (go_at_call 42; (with_reducible refine HSUM.out.mono ?_); rintro e w3 ⟨A5, c5, A6, c6, rfl, ⟨hi5, hi6, hrok⟩, hb3⟩; have HI5 := Lib.hid (HFRB.out _ _ _ hi5); have HI6 := Lib.hid (HFRB.out _ _ _ hi6); have HRO := Lib.hid hrok; have HS3 := Lib.hid (HSX.out.keep hb3); have hs3 := (HSOF.out w3 hb3).1; have HAL := Lib.hid (fun o => (HSOF.out (w3.alloc o) (Below.al hb3 o)).1); clear hi5 hi6 hrok hb3)
                | (refine step_append_ownR rfl (.tmp 49) (.tmp 55) 48 rfl N1 61 iR (.agg #[.int .i64 0, .slice none 0 0, .slice none 0 0, .int .i64 0, .int .i64 0, .int .i64 0]) 6 80 Tryd.underlying48 hiR hzR0 hzR1 hzR2 rfl (by decide) (.slice Aq qs.length cq) qs.length (qs.flatMap Rep.cells) (by simp [Act.eval]) (HS3.out.out.1.alloc _) ⟨w3.heap.size, 0, none⟩ 1 1 [.int .i64 rr.kind, .slice A5 rr.sites.length c5, .slice A6 rr.starts.length c6, .int .i64 rr.count, .int .i64 rr.best, .int .i64 rr.score] (by simp [Act.eval]) rfl (cells_at w3 _ [.int .i64 rr.kind, .slice A5 rr.sites.length c5, .slice A6 rr.starts.length c6, .int .i64 rr.count, .int .i64 rr.best, .int .i64 rr.score] rfl) (six_one _ _ _ _ _ _ _ _ _ _) HM1.out HM2.out HS3.out.n2a ?_; intro v' w5 hown hg hat; have HS5 := Lib.hid (HS3.out.push (r := rr) HI5.out HI6.out HRO.out hown hg hat); have hs5 := HS5.out.lb.cell 0; simp only [List.getElem?_toArray, List.getElem?_cons_zero] at hs5; clear hown hg hat))
              obtain ⟨dp, hcut, hdp⟩ := cut_fromR bo oo os.length cb n (n : Int) rfl hn2 hcb
              have HDP := Lib.hid hdp
              clear hdp hs5 hs3 HAL
              go_wp2_with fail
              go_roundw
              case rel => exact ⟨dp, cb - n, os.drop n, gs ++ [os.take n], qs ++ [(rr, .slice A5 rr.sites.length c5, .slice A6 rr.starts.length c6)], by rw [List.length_drop], Lib.hid (HS5.out.cut hn2 HDP.out), HDN, Lib.hid (by rw [List.map_append, List.map_append, HQG.out, HRR.out]; rfl), Lib.hid (by have := HLN.out; rw [List.length_append, List.length_singleton, List.length_drop]; omega)⟩
              case measure => simp [lenOf]; omega
end Go.Proofs.YtccpelfnkjckiaaDoor
