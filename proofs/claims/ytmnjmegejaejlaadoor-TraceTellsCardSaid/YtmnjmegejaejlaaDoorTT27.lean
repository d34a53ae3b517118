/-
  CONTRACT: trace.readLine at every line.
-/
import Derived.Test.YtmnjmegejaejlaaDoorTT18
import Derived.Test.YtmnjmegejaejlaaDoorTT26
import Derived.Test.YtmnjmegejaejlaaDoorTT22
import Derived.Test.YtmnjmegejaejlaaDoorTT23
import Derived.Test.YtmnjmegejaejlaaDoorTT19
import Derived.Test.YtmnjmegejaejlaaDoorTT21
import Derived.Test.YtmnjmegejaejlaaDoorTT25
import Derived.Test.YtmnjmegejaejlaaDoorTT24
import Derived.Test.YtmnjmegejaejlaaDoorTT20
namespace Go.Proofs.YtmnjmegejaejlaaDoor
open Go.RowKit

theorem tline_rd (h : List UInt8) (base b ab off n c : Nat) (ps : List (List UInt8)) (v : Nat → Value) (t : Trc) (ds : List (Value × Value)) (w : World) (hT : TrS w base b v t ds) (hp : PT w) (hG : GT b) (hn : n = ps.length + 1) (hc : n ≤ c) (hm : c ≤ maxLen) (hab : ab < w.heap.size)
    (hcell : ∀ j s, (h :: ps)[j]? = some s → w.cell? ⟨ab, off + j, none⟩ = some (.string ⟨s.toArray⟩)) (hl : ∀ p ∈ ps, p.length ≤ 1000000000) (hrn : ∀ i, rowN t i ≤ 1000000000) (hpn : ps.length ≤ 1000000000) :
    Calls Tryd.prog 16 #[.pointer (some ⟨b, 0, none⟩), .slice (some ⟨ab, off, none⟩) n c] w (LineRet w base b t (itemI h ps)) := by
  by_cases h_cell : h = wCell
  · subst h_cell; exact tline_cell base b ab off n c ps v t ds w hT hp hG hn hc hm hab hcell hl hrn hpn
  by_cases h_vol : h = wVol
  · subst h_vol; exact tline_vol base b ab off n c ps v t ds w hT hp hG hn hc hm hab hcell hl hrn hpn
  by_cases h_mutex : h = wMutex
  · subst h_mutex; exact tline_mutex base b ab off n c ps v t ds w hT hp hG hn hc hm hab hcell hl hrn hpn
  by_cases h_rw : h = wRw
  · subst h_rw; exact tline_rw base b ab off n c ps v t ds w hT hp hG hn hc hm hab hcell hl hrn hpn
  by_cases h_cond : h = wCond
  · subst h_cond; exact tline_cond base b ab off n c ps v t ds w hT hp hG hn hc hm hab hcell hl hrn hpn
  by_cases h_fut : h = wFut
  · subst h_fut; exact tline_fut base b ab off n c ps v t ds w hT hp hG hn hc hm hab hcell hl hrn hpn
  by_cases h_thr : h = wThr
  · subst h_thr; exact tline_thr base b ab off n c ps v t ds w hT hp hG hn hc hm hab hcell hl hrn hpn
  by_cases h_site : h = wSite
  · subst h_site; exact tline_site base b ab off n c ps v t ds w hT hp hG hn hc hm hab hcell hl hrn hpn
  by_cases h_event : h = wEvent
  · subst h_event; exact tline_event base b ab off n c ps v t ds w hT hp hG hn hc hm hab hcell hl hrn hpn
  exact tline_other h base b ab off n c ps v t ds w hT hp hG hn hc hm hab hcell hl hrn hpn (by simp [h_cell, h_vol, h_mutex, h_rw, h_cond, h_fut, h_thr, h_site, h_event])
end Go.Proofs.YtmnjmegejaejlaaDoor
