/-
  CONTRACT: interleaveref16.add at every line.
-/
import Derived.Test.YtmnjmegejaejlaaDoorTR37
import Derived.Test.YtmnjmegejaejlaaDoorTR46
import Derived.Test.YtmnjmegejaejlaaDoorTR41
import Derived.Test.YtmnjmegejaejlaaDoorTR43
import Derived.Test.YtmnjmegejaejlaaDoorTR38
import Derived.Test.YtmnjmegejaejlaaDoorTR40
import Derived.Test.YtmnjmegejaejlaaDoorTR45
import Derived.Test.YtmnjmegejaejlaaDoorTR44
import Derived.Test.YtmnjmegejaejlaaDoorTR39
import Derived.Test.YtmnjmegejaejlaaDoorTR42
namespace Go.Proofs.YtmnjmegejaejlaaDoor
open Go.RowKit

theorem radd_any (h : List UInt8) (N base b ab off n c : Nat) (ps : List (List UInt8)) (v : Nat → Value) (t : Trc) (ds : List (Value × Value)) (w : World) (hT : TrS w base b v t ds) (hp : PT w) (_hG : GT b) (hN : base ≤ N) (hNv : ∀ i, i < 7 → ∀ g, (v i).ownBlock = some g → base ≤ g ∧ g < N) (hab : N ≤ ab) (habs : ab < w.heap.size)
    (hn : n = ps.length + 1) (hc : n ≤ c) (hm : c ≤ maxLen) (hcell : ∀ j s, (h :: ps)[j]? = some s → w.cell? ⟨ab, off + j, none⟩ = some (.string ⟨s.toArray⟩)) (hl : ∀ p ∈ h :: ps, p.length ≤ 1000000000) (hrn : ∀ i, rowN t i ≤ 1000000000) (hpn : ps.length ≤ 900000000) :
    Calls Tryd.prog 18 #[.pointer (some ⟨b, 0, none⟩), .slice (some ⟨ab, off, none⟩) n c] w (RAddRet w base b t (itemI h ps)) := by
  by_cases h_cell : h = wCell
  · subst h_cell; exact radd_cell N base b ab off n c ps v t ds w hT hp _hG hN hNv hab habs hn hc hm hcell hl hrn hpn
  by_cases h_volatile : h = wVol
  · subst h_volatile; exact radd_volatile N base b ab off n c ps v t ds w hT hp _hG hN hNv hab habs hn hc hm hcell hl hrn hpn
  by_cases h_mutex : h = wMutex
  · subst h_mutex; exact radd_mutex N base b ab off n c ps v t ds w hT hp _hG hN hNv hab habs hn hc hm hcell hl hrn hpn
  by_cases h_rwlock : h = wRw
  · subst h_rwlock; exact radd_rwlock N base b ab off n c ps v t ds w hT hp _hG hN hNv hab habs hn hc hm hcell hl hrn hpn
  by_cases h_cond : h = wCond
  · subst h_cond; exact radd_cond N base b ab off n c ps v t ds w hT hp _hG hN hNv hab habs hn hc hm hcell hl hrn hpn
  by_cases h_future : h = wFut
  · subst h_future; exact radd_future N base b ab off n c ps v t ds w hT hp _hG hN hNv hab habs hn hc hm hcell hl hrn hpn
  by_cases h_thread : h = wThr
  · subst h_thread; exact radd_thread N base b ab off n c ps v t ds w hT hp _hG hN hNv hab habs hn hc hm hcell hl hrn hpn
  by_cases h_site : h = wSite
  · subst h_site; exact radd_site N base b ab off n c ps v t ds w hT hp _hG hN hNv hab habs hn hc hm hcell hl hrn hpn
  by_cases h_event : h = wEvent
  · subst h_event; exact radd_event N base b ab off n c ps v t ds w hT hp _hG hN hNv hab habs hn hc hm hcell hl hrn hpn
  exact radd_other h N base b ab off n c ps v t ds w hT hp _hG hN hNv hab habs hn hc hm hcell hl hrn hpn (by simp [h_cell, h_volatile, h_mutex, h_rwlock, h_cond, h_future, h_thread, h_site, h_event])
end Go.Proofs.YtmnjmegejaejlaaDoor
