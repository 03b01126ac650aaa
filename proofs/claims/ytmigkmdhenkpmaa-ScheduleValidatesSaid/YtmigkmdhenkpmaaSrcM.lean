/- Contracts of keep.Src: a reader of numbers, told by the list of the numbers that are left. -/
import Derived.Test.YtmigkmdhenkpmaaKeepM
import Derived.Test.YtmigkmdhenkpmaaOwn
namespace Go.Proofs.Ytmigkmdhenkpmaa
open Go.RowKit

/-- the reader at block b; its list lies in blocks below B or is nil; r: the numbers that are left -/
def SrcR (B : Nat) (w : World) (b : Nat) (r : List Int) : Prop :=
  ∃ (a : Option Addr) (cap : Nat) (l : List Int) (at_ : Nat), w.heap[b]? = some (.cells #[.slice a l.length cap, .int .i64 at_] 59 (0, 0)) ∧ B ≤ b ∧ IntsV w (.slice a l.length cap) l ∧
    (0 < l.length → ∀ x, a = some x → x.block < B) ∧ at_ ≤ l.length ∧ l.length ≤ 2000 ∧ l.drop at_ = r

theorem SrcR.lt {B : Nat} {w : World} {b : Nat} {r : List Int} (h : SrcR B w b r) : b < w.heap.size := by
  obtain ⟨a, cap, l, at_, h1, _⟩ := h
  exact lt_of_block h1

theorem SrcR.ge {B : Nat} {w : World} {b : Nat} {r : List Int} (h : SrcR B w b r) : B ≤ b := by
  obtain ⟨a, cap, l, at_, _, h1, _⟩ := h
  exact h1

theorem SrcR.other {B : Nat} {w w' : World} {b : Nat} {r : List Int} (h : SrcR B w b r) {row : Option Nat} (hg : w.grownBy w' row) (hne : ∀ g, row = some g → B ≤ g ∧ g ≠ b) : SrcR B w' b r := by
  have hlt := h.lt
  obtain ⟨a, cap, l, at_, h1, h2, h3, h4, h5⟩ := h
  refine ⟨a, cap, l, at_, ?_, h2, h3.other hg ?_, h4, h5⟩
  · rw [hg.block b hlt (fun e => (hne b e.symm).2 rfl)]
    exact h1
  · intro hl g hg' e
    cases a with
    | none => cases hg'
    | some x =>
      cases hg'
      have := h4 hl x rfl
      have := (hne _ e).1
      omega

theorem SrcR.below {B : Nat} {w w' : World} {b : Nat} {r : List Int} (h : SrcR B w b r) (hb : Below w.heap.size w w') : SrcR B w' b r :=
  h.other (row := none) ⟨hb.os, hb.tape, hb.output, hb.size, fun k hk _ => hb.block k hk⟩ (by intro g hg; cases hg)

def RawPost (B b : Nat) (r : List Int) (w : World) (e : Ending) (w' : World) : Prop :=
  e = .returned (.int .i64 (r.headD 0)) ∧ SrcR B w' b r.tail ∧ w.grownBy w' (some b)

theorem raw_end {B b : Nat} {r : List Int} {w : World} (h : SrcR B w b r) (hr : r = []) (n : Nat) : RawPost B b r w (.returned (.int .i64 0)) (w.drewN n) := by
  subst hr
  exact ⟨rfl, h, grownBy_draws (grownBy_refl _ _) n⟩

theorem srcR_step {B b : Nat} {r : List Int} {w : World} (h : SrcR B w b r) {a : Option Addr} {cap : Nat} {l : List Int} {at_ : Nat}
    (h1 : w.heap[b]? = some (.cells #[.slice a l.length cap, .int .i64 at_] 59 (0, 0))) (hr : l.drop at_ = r) (hlt : at_ < l.length) (h3 : IntsV w (.slice a l.length cap) l) (h4 : 0 < l.length → ∀ x, a = some x → x.block < B)
    (_h5 : at_ ≤ l.length) (h6 : l.length ≤ 2000) (n m : Nat) : SrcR B (((w.drewN n).setCell ⟨b, 1, none⟩ (.int .i64 ((at_ : Int) + 1))).drewN m) b r.tail := by
  have hB := h.ge
  have hg : w.grownBy (((w.drewN n).setCell ⟨b, 1, none⟩ (.int .i64 ((at_ : Int) + 1))).drewN m) (some b) :=
    grownBy_draws (grownBy_trans (grownBy_draws (grownBy_refl _ _) _) (grownBy_set _ _ _ _)) _
  refine ⟨a, cap, l, at_ + 1, ?_, hB, h3.other hg ?_, h4, by omega, h6, ?_⟩
  · show ((w.drewN n).setCell ⟨b, 1, none⟩ (.int .i64 ((at_ : Int) + 1))).heap[b]? = _
    rw [heap_setCell_same (w.drewN n) b 1 _ _ _ h1]
    rfl
  · intro hl g hg' e
    cases a with
    | none => cases hg'
    | some x =>
      cases hg'
      have := h4 hl x rfl
      cases e
      omega
  · rw [← hr, List.tail_drop]

theorem Raw_any (B b : Nat) (r : List Int) (w : World) (h : SrcR B w b r) :
    Calls Try.prog 37 #[.pointer (some ⟨b, 0, none⟩)] w (RawPost B b r w) := by
  have h' := h
  obtain ⟨a, cap, l, at_, h1, h2, h3, h4, h5, h6, h7⟩ := h
  have c0 : w.cell? ⟨b, 0, none⟩ = some (.slice a l.length cap) := by simp [World.cell?, h1]
  have c1 : w.cell? ⟨b, 1, none⟩ = some (.int .i64 at_) := by simp [World.cell?, h1]
  have f1 : w.frozen? ⟨b, 1, none⟩ = false := by simp [World.frozen?, h1]
  have HR := Lib.hid h7
  have HB := Lib.hid h1
  clear h7 h1
  by_cases hlt : at_ < l.length
  · obtain ⟨a', c', hv, la, _, ca⟩ := h3.open
    cases hv
    obtain ⟨g, off, rfl, hg, cc⟩ := ca (by omega)
    have d := cc at_ hlt
    have hx : r.headD 0 = l[at_]?.getD 0 := by rw [← HR.out]; simp [List.headD_eq_head?_getD, List.head?_drop]
    have hne : ¬ b = g := by have := h4 (by omega) _ rfl; simp at this; omega
    have hne2 : ¬ g = b := by have := h4 (by omega) _ rfl; simp at this; omega
    have hd2 : (w.setCell ⟨b, 1, none⟩ (.int .i64 ((at_ : Int) + 1))).cell? ⟨g, off + at_, none⟩ = some (.int .i64 (l[at_]?.getD 0)) := (World.cell?_of_block (w := w) (Below.heap_setCell _ _ _ _ hne2)).trans d
    rw [← hx] at d hd2
    unfold RawPost
    generalize r.headD 0 = x at *
    have HX := Lib.hid hx
    clear hx cc ca
    go_enter Try.func37, Try.ntmps37
    go_wp2
    go_quiet (fail)
    go_wp2
    go_quiet (fail)
    go_wp2
    go_ret
    exact ⟨rfl, srcR_step h' HB.out HR.out hlt h3 h4 h5 h6 _ _, grownBy_draws (grownBy_trans (grownBy_draws (grownBy_refl _ _) _) (grownBy_set _ _ _ _)) _⟩
  · go_enter Try.func37, Try.ntmps37
    go_wp2
    go_quiet (fail)
    go_wp2
    go_ret
    exact raw_end h' (by rw [← HR.out]; exact List.drop_eq_nil_of_le (by omega)) _

def NPost (B b : Nat) (r : List Int) (x : Int) (w : World) (e : Ending) (w' : World) : Prop :=
  e = .returned (.int .i64 x) ∧ SrcR B w' b r.tail ∧ w.grownBy w' (some b)

theorem SrcR.wf {B : Nat} {w : World} {b : Nat} {r : List Int} (h : SrcR B w b r) : -9223372036854775808 ≤ r.headD 0 ∧ r.headD 0 ≤ 9223372036854775807 := by
  obtain ⟨a, cap, l, at_, h1, h2, h3, h4, h5, h6, h7⟩ := h
  have hw : ∀ n ∈ r, (Lit.int .i64 n).wf = true := fun n hn => h3.wf n (by rw [← h7] at hn; exact List.mem_of_mem_drop hn)
  cases r with
  | nil => simp
  | cons x r =>
    have := hw x (by simp)
    exact bounds_i64 this

theorem N_any (B b : Nat) (r : List Int) (n : Int) (w : World) (h : SrcR B w b r) (hn : n ≤ 9223372036854775807) :
    Calls Try.prog 21 #[.pointer (some ⟨b, 0, none⟩), .int .i64 n] w (NPost B b r (modF (r.headD 0) n) w) := by
  have R := Raw_any B b r w h
  have M := fun w' => Mod_any (r.headD 0) n w' h.wf hn
  unfold RawPost at R
  generalize r.headD 0 = x at *
  go_enter Try.func21, Try.ntmps21
  go_wp2_with (first | (go_at_call 37; refine R.mono ?_; rintro e w1 ⟨rfl, hs, hg⟩) | (go_at_call 43; refine (M _).mono ?_; rintro e w' ⟨rfl, rfl⟩))
  go_ret
  exact ⟨rfl, hs, hg⟩

def NewPost (l : List Int) (w : World) (e : Ending) (w' : World) : Prop :=
  ∃ b, e = .returned (.pointer (some ⟨b, 0, none⟩)) ∧ SrcR w.heap.size w' b (l.take 2000) ∧ Below w.heap.size w w'

theorem new_end {w : World} {a : Option Addr} {cap : Nat} {l : List Int} (h : IntsV w (.slice a l.length cap) l) (hl : l.length ≤ 2000) :
    SrcR w.heap.size (w.alloc (.cells #[.slice a l.length cap, .int .i64 0] 59)) w.heap.size l := by
  refine ⟨a, cap, l, 0, heap_alloc_new w _, Nat.le_refl _, h.below ((Below.refl _ _).alloc (Nat.le_refl _) _), fun hl0 x hx => ?_, Nat.zero_le _, hl, rfl⟩
  obtain ⟨a', cap', hv, h1, h2, h3, h4, h5⟩ := h
  cases hv
  obtain ⟨b, off, rfl, hlt, _⟩ := h5 hl0
  cases hx
  exact hlt

theorem New_any (v : Value) (l : List Int) (w : World) (hv : IntsV w v l) :
    Calls Try.prog 11 #[v] w (NewPost l w) := by
  have hv' := hv
  obtain ⟨a, cap, rfl, h1, h2, h3, h4, h5⟩ := hv
  have h2' := h2
  unfold maxLen at h2'
  by_cases hl : l.length ≤ 2000
  · go_enter Try.func11, Try.ntmps11
    go_wp2
    go_ret
    exact ⟨_, rfl, by rw [List.take_of_length_le hl]; exact new_end hv' hl, (Below.refl _ _).alloc (Nat.le_refl _) _⟩
  · go_enter Try.func11, Try.ntmps11
    go_wp2
    go_ret
    obtain ⟨t, ht⟩ : ∃ t, t = l.take 2000 := ⟨_, rfl⟩
    have htl : t.length = 2000 := by rw [ht, List.length_take]; omega
    have hI : IntsV w (.slice a t.length cap) t := by
      refine ⟨a, cap, rfl, by omega, h2, fun n hn => h3 n (by rw [ht] at hn; exact List.mem_of_mem_take hn), h4, fun _ => ?_⟩
      obtain ⟨b, off, rfl, hlt, hc⟩ := h5 (by omega)
      refine ⟨b, off, rfl, hlt, fun k hk => ?_⟩
      rw [hc k (by omega), ht, List.getElem?_take, if_pos (by omega)]
    have := new_end hI (by omega)
    rw [htl] at this
    refine ⟨_, rfl, ?_, (Below.refl _ _).alloc (Nat.le_refl _) _⟩
    rw [← ht]
    exact this
end Go.Proofs.Ytmigkmdhenkpmaa
