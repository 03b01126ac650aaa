/- The inbox: Missing and Skip of program and reference agree; an inbox is the same as itself. -/
import Derived.Test.YtpipggnfbgjefaaIb2
import Derived.Test.YtpipggnfbgjefaaIh
namespace Go.Proofs.Ytpipggnfbgjefaa.Ex.Ib
open Go.RowKit Go.Proofs.Ytpipggnfbgjefaa.Ax
set_option linter.unusedVariables false
set_option linter.unusedSimpArgs false

/-! Missing -/
def rng (a b : Int) : List Int := (List.range (b - a).toNat).map (fun k : Nat => a + (k : Int))
theorem rng_nil {a b : Int} (h : b ≤ a) : rng a b = [] := by
  unfold rng
  rw [show (b - a).toNat = 0 by omega]
  rfl
theorem rng_cons {a b : Int} (h : a < b) : rng a b = a :: rng (a + 1) b := by
  unfold rng
  obtain ⟨k, hk⟩ : ∃ k, (b - a).toNat = k + 1 := ⟨(b - a).toNat - 1, by omega⟩
  rw [hk, show (b - (a + 1)).toNat = k by omega, List.range_succ_eq_map, List.map_cons, List.map_map]
  congr 1
  · simp
  · apply List.map_congr_left
    intro j _
    simp only [Function.comp]
    omega
theorem rng_len (a b : Int) : (rng a b).length = (b - a).toNat := by unfold rng; simp
def missM : Int → List Message → List Int
  | _, [] => []
  | n, h :: t => rng n h.Number ++ missM (h.Number + 1) t
theorem miss_L2 (h : Message) : ∀ (n : Nat) (acc : List Int) (i : Int), 0 ≤ i → i ≤ 100000 → h.Number ≤ 100000 → (h.Number - i).toNat < n → acc.length + (h.Number - i).toNat ≤ 1000 →
    inbox_Missing_L2 h n acc i = some (.brk (acc ++ rng i h.Number))
  | 0, acc, i, _, _, _, c, _ => by omega
  | n + 1, acc, i, h0, h1, h2, c, hl => by
    rw [inbox_Missing_L2]
    by_cases d : i < h.Number
    · rw [decide_eq_true d, cond_true, apL_eq (by simp; omega), Option.bind_some, w64_id (by omega) (by omega), miss_L2 h n (acc ++ [i]) (i + 1) (by omega) (by omega) h2 (by omega) (by simp; omega), rng_cons d]
      simp
    · rw [decide_eq_false d, cond_false, rng_nil (by omega)]
      simp
theorem miss_L1 : ∀ (H : List Message) (k : Nat) (acc : List Int) (i top : Int), 0 ≤ i → i ≤ top → top ≤ 100000 → (∀ h ∈ H, i ≤ h.Number ∧ h.Number < top) → sortH H → acc.length + (top - i).toNat ≤ 1000 →
    inbox_Missing_L1 H k acc i = some (.brk (acc ++ missM i H))
  | [], k, acc, i, top, _, _, _, _, _, _ => by simp [inbox_Missing_L1, missM]
  | h :: H, k, acc, i, top, h0, h1, h2, hr, hs, hl => by
    have hh := hr h (by simp)
    unfold sortH at hs
    rw [List.pairwise_cons] at hs
    rw [inbox_Missing_L1, miss_L2 h 9223372036854775807 acc i h0 (by omega) (by omega) (by omega) (by omega)]
    simp only [Ctl.sub]
    rw [w64_id (by omega) (by omega), miss_L1 H (k + 1) _ (h.Number + 1) top (by omega) (by omega) h2 (fun x hx => by have := hs.1 x hx; have := hr x (by simp [hx]); omega) hs.2 (by rw [List.length_append, rng_len]; omega), missM]
    simp
/-- the reference -/
theorem rmiss_L1 (s : Sender) (b : Bool) (hl : s.Held.length ≤ 1000) (hs : sortH s.Held) (last : Message) (hlast : s.Held[s.Held.length - 1]? = some last) (hn : last.Number ≤ 100000) :
    ∀ (n : Nat) (acc : List Int) (i : Int) (pre suf : List Message), s.Held = pre ++ suf → (∀ h ∈ pre, h.Number < i) → (∀ h ∈ suf, i ≤ h.Number) → 0 ≤ i → i ≤ 100001 → (last.Number + 1 - i).toNat < n → acc.length + (last.Number + 1 - i).toNat ≤ 1000 →
    ref05_Missing_L1 (s, b) n acc i = some (.brk (acc ++ missM i suf)) := by
  intro n
  have hpos : 0 < s.Held.length := by have := (List.getElem?_eq_some_iff.1 hlast).1; omega
  induction n with
  | zero => intro acc i pre suf _ _ _ _ _ c; omega
  | succ n ih =>
    intro acc i pre suf hsp hpre hsuf h0 h1 c hl2
    rw [ref05_Missing_L1]
    show ((ixL s.Held (w64 ((s.Held.length : Int) - 1))).bind _) = _
    rw [w64_id (by omega) (by omega), ixL_at' (l := s.Held) (s.Held.length - 1) (by omega) hlast]
    simp only [Option.bind_some]
    have hmem : last ∈ s.Held := List.mem_of_getElem? hlast
    by_cases d : i < last.Number
    · rw [decide_eq_true d, cond_true, rheld_eq]
      simp only [Option.bind_some]
      by_cases e : ∃ m ∈ s.Held, m.Number = i
      · rw [if_pos e, decide_eq_false (by omega), cond_false, w64_id (by omega) (by omega)]
        obtain ⟨m, hm, hmi⟩ := e
        cases suf with
        | nil =>
          rw [hsp, List.append_nil] at hm
          have := hpre m hm
          omega
        | cons h t =>
          have hsort := hs
          unfold sortH at hsort
          rw [hsp, List.pairwise_append, List.pairwise_cons] at hsort
          have hhi : h.Number = i := by
            rw [hsp] at hm
            rcases List.mem_append.1 hm with hm | hm
            · have := hpre m hm; omega
            · rcases List.mem_cons.1 hm with rfl | hm
              · exact hmi
              · have := hsort.2.1.1 m hm
                have := hsuf h (by simp)
                omega
          rw [ih acc (i + 1) (pre ++ [h]) t (by rw [hsp]; simp) (fun x hx => by
            rcases List.mem_append.1 hx with hx | hx
            · have := hpre x hx; omega
            · have : x = h := by simpa using hx
              subst this; omega) (fun x hx => by have := hsort.2.1.1 x hx; omega) (by omega) (by omega) (by omega) (by omega)]
          rw [missM, rng_nil (by omega), hhi]
          rfl
      · rw [if_neg e, decide_eq_true (by omega), cond_true, apL_eq (by simp; omega), Option.bind_some, w64_id (by omega) (by omega)]
        have hne : ∀ h ∈ suf, i < h.Number := fun h hh => by
          have h3 := hsuf h hh
          have : h.Number ≠ i := fun e2 => e ⟨h, by rw [hsp]; exact List.mem_append_right _ hh, e2⟩
          omega
        rw [ih (acc ++ [i]) (i + 1) pre suf hsp (fun x hx => by have := hpre x hx; omega) (fun x hx => by have := hne x hx; omega) (by omega) (by omega) (by omega) (by simp; omega)]
        cases suf with
        | nil =>
          exfalso
          rw [hsp, List.append_nil] at hmem
          have := hpre last hmem
          omega
        | cons h t =>
          have := hne h (by simp)
          rw [missM, missM, rng_cons this]
          simp
    · rw [decide_eq_false d, cond_false]
      cases suf with
      | nil => simp [missM]
      | cons h t =>
        have hsort := hs
        unfold sortH at hsort
        rw [hsp, List.pairwise_append, List.pairwise_cons] at hsort
        have h3 := hsuf h (by simp)
        have ht : t = [] := by
          cases t with
          | nil => rfl
          | cons u v =>
            exfalso
            rw [hsp] at hmem
            rw [List.mem_append, List.mem_cons, List.mem_cons] at hmem
            have h4 := hsort.2.1.1 u (by simp)
            rcases hmem with q | q | q | q
            · have := hsort.2.2 last q h (by simp)
              have := hpre last q
              have hll : s.Held[s.Held.length - 1]? = some last := hlast
              -- the last of the list is the last of the suffix
              have : (pre ++ h :: u :: v)[(pre ++ h :: u :: v).length - 1]? = some last := by rw [← hsp]; exact hlast
              rw [List.getElem?_append_right (by simp)] at this
              have hm2 : last ∈ h :: u :: v := List.mem_of_getElem? this
              rcases List.mem_cons.1 hm2 with e | e
              · subst e; omega
              · have := hsort.2.1.1 last e; omega
            · subst q
              have : (pre ++ last :: u :: v)[(pre ++ last :: u :: v).length - 1]? = some last := by rw [← hsp]; exact hlast
              rw [List.getElem?_append_right (by simp)] at this
              have e : (pre ++ last :: u :: v).length - 1 - pre.length = (u :: v).length - 1 + 1 := by simp
              rw [e, List.getElem?_cons_succ] at this
              have hm2 : last ∈ u :: v := List.mem_of_getElem? this
              have := hsort.2.1.1 last hm2
              omega
            · subst q; omega
            · have := hsort.2.1.1 last (by simp [q]); omega
        subst ht
        rw [missM, missM]
        have : last = h := by
          have : (pre ++ [h])[(pre ++ [h]).length - 1]? = some last := by rw [← hsp]; exact hlast
          simp at this
          exact this.symm
        subst this
        rw [rng_nil (by omega)]
        simp
theorem miss_both {x : Inbox} (hx : IOk x) (p : ByteArray) : inbox_Missing x p = some (missM (getS x.L p).Next (getS x.L p).Held) ∧ ref05_Missing x p = some (missM (getS x.L p).Next (getS x.L p).Held) := by
  obtain ⟨gs, gp⟩ := getS_ok hx p
  have hw := hx.w
  have hlen := gs.len hw
  have nx := gs.nx
  have hn := hx.n
  constructor
  · unfold inbox_Missing inbox_find
    rw [search_S p x.L hx.so (by omega)]
    simp only [Option.bind_some]
    by_cases ck : ∃ s ∈ x.L, s.Port = p
    · obtain ⟨e1, e2, e3⟩ := getS_some hx.so ck
      rw [decide_eq_true ck, Bool.not_true, cond_false, ixL_at' _ rfl e1]
      simp only [Option.bind_some]
      rw [fin_brkE (miss_L1 _ 0 [] _ ((getS x.L p).Next + x.Window) (by omega) (by omega) (by omega) (fun h hh => by have := gs.rg h hh; omega) gs.so (by simp; omega))]
      rfl
    · rw [decide_eq_false ck, Bool.not_false, cond_true, getS_none ck]
      rfl
  · unfold ref05_Missing
    rw [rSender_eq]
    simp only [Option.bind_some]
    generalize getS x.L p = s at *
    by_cases c : s.Held = []
    · rw [c]; rfl
    · have hp : 0 < s.Held.length := List.length_pos_iff.2 c
      rw [show ((s.Held.length : Int) == 0) = false from by simp; omega, cond_false]
      have hlast := List.getElem?_eq_getElem (show s.Held.length - 1 < s.Held.length by omega)
      have hr := gs.rg _ (List.mem_of_getElem? hlast)
      rw [fin_brkE (rmiss_L1 s _ (by omega) gs.so _ hlast (by omega) 9223372036854775807 [] s.Next [] s.Held rfl (by simp) (fun h hh => by have := gs.rg h hh; omega) (by omega) (by omega) (by omega) (by simp; omega))]
      rfl

/-! Skip -/
/-! an inbox is the same as itself -/
theorem sameList_refl (l : List Message) : ref05_SameList l l = some true := by
  have key : ∀ (t pre : List Message), l = pre ++ t → ref05_SameList_L1 l t pre.length = some (.brk ()) := by
    intro t
    induction t with
    | nil => intro pre _; rfl
    | cons e t ih =>
      intro pre h
      rw [ref05_SameList_L1, ixL_at' pre.length rfl (show l[pre.length]? = some e by rw [h]; simp)]
      simp only [Option.bind_some, Ig.same_refl, Bool.not_true, cond_false]
      have := ih (pre ++ [e]) (by rw [h]; simp)
      rw [List.length_append] at this
      exact this
  unfold ref05_SameList
  simp only [bne_self_eq_false, cond_false]
  exact fin_brkE (key l [] rfl)
theorem same_refl (x : Inbox) : ref05_Same x x = some true := by
  have key : ∀ (t pre : List Sender), x.L = pre ++ t → ref05_Same_L1 x t pre.length = some (.brk ()) := by
    intro t
    induction t with
    | nil => intro pre _; rfl
    | cons e t ih =>
      intro pre h
      rw [ref05_Same_L1, ixL_at' pre.length rfl (show x.L[pre.length]? = some e by rw [h]; simp)]
      simp only [Option.bind_some, beq_self_eq_true, bne_self_eq_false, sameList_refl, Bool.not_true, cond_false]
      have := ih (pre ++ [e]) (by rw [h]; simp)
      rw [List.length_append] at this
      exact this
  unfold ref05_Same
  simp only [bne_self_eq_false, cond_false]
  exact fin_brkE (key x.L [] rfl)
end Go.Proofs.Ytpipggnfbgjefaa.Ex.Ib
