/- Text and Port of keep.Src. -/
import Derived.Test.YtmigkmdhenkpmaaDepQ
namespace Go.Proofs.Ytmigkmdhenkpmaa
open Go.RowKit

theorem Text_any (B b : Nat) (r : List Int) (g n : Nat) (ss : Nat → ByteArray) (w : World) (h : SrcR B w b r) (hg : g ≠ b) (hn : 0 < n ∧ n ≤ 100) (hc : ∀ k, k < n → w.cell? ⟨g, k, none⟩ = some (.string (ss k))) :
    Calls Try.prog 49 #[.pointer (some ⟨b, 0, none⟩), .slice (some ⟨g, 0, none⟩) n n] w fun e w' => e = .returned (.string (ss (modF (r.headD 0) n).toNat)) ∧ SrcR B w' b r.tail ∧ w.grownBy w' (some b) := by
  have hm := modF_bd (r.headD 0) n (by omega)
  have QN := N_any B b r n w h (by omega)
  have HC := Lib.hid hc
  clear hc
  obtain ⟨k, hk⟩ : ∃ k : Nat, modF (r.headD 0) n = k := ⟨(modF (r.headD 0) n).toNat, by omega⟩
  rw [hk] at hm QN
  rw [hk, Int.toNat_natCast]
  clear hk
  have hkn : k < n := by omega
  have hkn2 : (k : Int) < (n : Int) := by omega
  go_enter Try.func49, Try.ntmps49
  go_wp2_with (go_at_call 21; refine QN.mono ?_; rintro e w2 ⟨rfl, hs2, hg2⟩; have hck := hg2.cell (HC.out k hkn) (by simpa using hg))
  go_ret
  exact ⟨rfl, hs2, hg2⟩

def PortPost (B b : Nat) (r : List Int) (w : World) (e : Ending) (w' : World) : Prop :=
  ∃ s, e = .returned (.string s) ∧ letsF s 3 3 = true ∧ SrcR B w' b r.tail ∧ w.grownBy w' (some b)

def portS (k : Nat) : ByteArray := if k = 0 then ⟨#[67, 80, 72]⟩ else if k = 1 then ⟨#[76, 72, 82]⟩ else if k = 2 then ⟨#[70, 82, 65]⟩ else if k = 3 then ⟨#[79, 83, 76]⟩ else ⟨#[65, 82, 78]⟩

theorem portS_ok (k : Nat) : letsF (portS k) 3 3 = true := by
  unfold portS
  split
  · decide +kernel
  · split
    · decide +kernel
    · split
      · decide +kernel
      · split <;> decide +kernel

theorem port_cells (k : Nat) (hk : k < 5) : (#[.string ⟨#[67, 80, 72]⟩, .string ⟨#[76, 72, 82]⟩, .string ⟨#[70, 82, 65]⟩, .string ⟨#[79, 83, 76]⟩, .string ⟨#[65, 82, 78]⟩] : Array Value)[k]? = some (.string (portS k)) := by
  match k, hk with
  | 0, _ => rfl
  | 1, _ => rfl
  | 2, _ => rfl
  | 3, _ => rfl
  | 4, _ => rfl

theorem Port_any (B b : Nat) (r : List Int) (w : World) (h : SrcR B w b r) :
    Calls Try.prog 36 #[.pointer (some ⟨b, 0, none⟩)] w (PortPost B b r w) := by
  have hb := h.lt
  have TX := fun (w1 : World) (h1 : SrcR B w1 b r) hc => Text_any B b r w.heap.size 5 portS w1 h1 (by omega) (by omega) hc
  go_enter Try.func36, Try.ntmps36
  go_wp2_with (go_at_call 49; refine (TX _ (h.below ((Below.refl _ _).alloc (Nat.le_refl _) _)) (fun k hk => cell_of (heap_alloc_new _ _) (port_cells k hk))).mono ?_; rintro e w2 ⟨rfl, hs2, hg2⟩)
  go_ret
  exact ⟨_, rfl, portS_ok _, hs2, grownBy_trans (World.grownBy_alloc _ _ _) hg2⟩
end Go.Proofs.Ytmigkmdhenkpmaa
