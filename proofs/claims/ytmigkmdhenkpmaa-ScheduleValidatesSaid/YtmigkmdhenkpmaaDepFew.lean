/- The law's few: at most the first 30 departures. -/
import Derived.Test.YtmigkmdhenkpmaaDepZ
namespace Go.Proofs.Ytmigkmdhenkpmaa
open Go.RowKit

theorem RowV.take {α : Type} {sz : Nat} {enc : α → Array Value} {w : World} {a : Option Addr} {n c : Nat} {l : List α} (h : RowV sz enc w (.slice a n c) l) (k : Nat) (hk : k ≤ l.length) : RowV sz enc w (.slice a k c) (l.take k) := by
  obtain ⟨a', cap, hv, h1, h2, h4, h5⟩ := h
  cases hv
  have hl : (l.take k).length = k := by rw [List.length_take]; omega
  refine ⟨a, c, by rw [hl], by omega, h2, h4, fun h0 => ?_⟩
  obtain ⟨b, off, ha, hlt, hc⟩ := h5 (by omega)
  exact ⟨b, off, ha, hlt, fun i x hi j u hu => hc i x (by
    rw [List.getElem?_take] at hi
    split at hi
    · exact hi
    · cases hi) j u hu⟩

theorem few_any (v : Value) (l : List Dep) (w : World) (hv : DepsV w v l) :
    Calls Try.prog 13 #[v] w fun e w' => ∃ v', e = .returned v' ∧ (∀ w0, DepsV w0 v l → DepsV w0 v' (l.take 30)) ∧ ∃ n, w' = w.drewN n := by
  obtain ⟨a, c, rfl, la, lc, _⟩ := hv.open
  clear hv
  by_cases h : l.length ≤ 30
  · have hm : min (l.length : Int) 30 = (l.length : Int) := by omega
    go_enter Try.func13, Try.ntmps13
    go_wp2
    go_ret
    exact ⟨_, rfl, (fun w0 h0 => by rw [List.take_of_length_le h]; exact h0), 0, rfl⟩
  · have hm : min (l.length : Int) 30 = 30 := by omega
    go_enter Try.func13, Try.ntmps13
    go_wp2
    go_ret
    exact ⟨_, rfl, (fun w0 h0 => RowV.take h0 30 (by omega)), 0, rfl⟩
end Go.Proofs.Ytmigkmdhenkpmaa
