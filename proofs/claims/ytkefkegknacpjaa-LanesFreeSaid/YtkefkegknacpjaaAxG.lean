/- Abstract operations: rows: what a slice holds, append. Nothing of the dump is used here. -/
import Derived.Test.YtkefkegknacpjaaAxF
import Derived.Laws.MakeOwn
namespace Go.Proofs.Ytkefkegknacpjaa.Ax
open Go.RowKit
set_option linter.unusedVariables false
set_option linter.unusedSimpArgs false

/-- the elements ys lie in these cells, one behind the other -/
def Flat (w : World) (F : Nat → Prop) (β : Nat → Option Hdr) (sz : Nat) (ys : List (List AV)) (news : List Value) : Prop :=
  news.length = ys.length * sz ∧ (∀ (k : Nat) (c : List AV), ys[k]? = some c → c.length = sz ∧ ∀ u ∈ c, u.one = true) ∧
    ∀ (k : Nat) (c : List AV) (j : Nat) (u : AV), ys[k]? = some c → c[j]? = some u → ∃ v, news[k * sz + j]? = some v ∧ RV w F β u v

theorem Flat.mono {w w' : World} {F F' : Nat → Prop} {β β' : Nat → Option Hdr} {sz : Nat} {ys : List (List AV)} {news : List Value} (h : Flat w F β sz ys news) (hF : ∀ b, F b → F' b)
    (hw : ∀ b, F b → w'.heap[b]? = w.heap[b]?) (hβ : ∀ id h, β id = some h → β' id = some h) : Flat w' F' β' sz ys news :=
  ⟨h.1, h.2.1, fun k c j u hk hj => by obtain ⟨v, h1, h2⟩ := h.2.2 k c j u hk hj; exact ⟨v, h1, h2.mono hF hw hβ⟩⟩

theorem divmod {sz p n : Nat} (h : p < n * sz) : p / sz < n ∧ p % sz < sz ∧ p / sz * sz + p % sz = p := by
  have hsz : 0 < sz := by
    rcases Nat.eq_zero_or_pos sz with h0 | h0
    · subst h0; simp at h
    · exact h0
  exact ⟨(Nat.div_lt_iff_lt_mul hsz).2 h, Nat.mod_lt _ hsz, by rw [Nat.mul_comm]; exact Nat.div_add_mod p sz⟩

theorem Flat.one {w : World} {F : Nat → Prop} {β : Nat → Option Hdr} {sz : Nat} {ys : List (List AV)} {news : List Value} (h : Flat w F β sz ys news) : ∀ v ∈ news, v.oneCell' = true := by
  intro v hv
  obtain ⟨p, hp, he⟩ := List.getElem_of_mem hv
  obtain ⟨h1, h2, h3⟩ := h
  rw [h1] at hp
  obtain ⟨d1, d2, d3⟩ := divmod hp
  have hk : ys[p / sz]? = some ys[p / sz] := List.getElem?_eq_getElem d1
  have hl := (h2 _ _ hk).1
  have hj : ys[p / sz][p % sz]? = some (ys[p / sz][p % sz]'(by omega)) := List.getElem?_eq_getElem _
  obtain ⟨v', e1, e2⟩ := h3 _ _ _ _ hk hj
  rw [d3, List.getElem?_eq_getElem (by rw [h1]; exact hp), he] at e1
  cases e1
  exact (e2.oneCell ((h2 _ _ hk).2 _ (List.mem_of_getElem? hj))).1

theorem flat_lt {sz k j n : Nat} (hk : k < n) (hj : j < sz) : k * sz + j < n * sz := by
  have : (k + 1) * sz ≤ n * sz := Nat.mul_le_mul_right _ hk
  rw [Nat.succ_mul] at this
  omega

theorem Flat.append {w : World} {F : Nat → Prop} {β : Nat → Option Hdr} {sz : Nat} {xs ys : List (List AV)} {l m : List Value} (h : Flat w F β sz xs l) (k : Flat w F β sz ys m) : Flat w F β sz (xs ++ ys) (l ++ m) := by
  obtain ⟨h1, h2, h3⟩ := h
  obtain ⟨k1, k2, k3⟩ := k
  have sp : ∀ (i : Nat) (c : List AV), (xs ++ ys)[i]? = some c → (i < xs.length ∧ xs[i]? = some c) ∨ (xs.length ≤ i ∧ ys[i - xs.length]? = some c) := fun i c hi => by
    by_cases hlt : i < xs.length
    · rw [List.getElem?_append_left hlt] at hi; exact .inl ⟨hlt, hi⟩
    · rw [List.getElem?_append_right (by omega)] at hi; exact .inr ⟨by omega, hi⟩
  refine ⟨by rw [List.length_append, h1, k1, List.length_append, Nat.add_mul], fun i c hi => ?_, fun i c j u hi hj => ?_⟩
  · rcases sp i c hi with ⟨_, e⟩ | ⟨_, e⟩
    · exact h2 _ _ e
    · exact k2 _ _ e
  · rcases sp i c hi with ⟨hlt, e⟩ | ⟨hle, e⟩
    · obtain ⟨v, e1, e2⟩ := h3 i c j u e hj
      refine ⟨v, ?_, e2⟩
      rw [List.getElem?_append_left (by have := (List.getElem?_eq_some_iff.1 e1).1; exact this)]
      exact e1
    · obtain ⟨v, e1, e2⟩ := k3 _ c j u e hj
      refine ⟨v, ?_, e2⟩
      have hmul : (i - xs.length) * sz = i * sz - xs.length * sz := Nat.sub_mul _ _ _
      have hle2 : xs.length * sz ≤ i * sz := Nat.mul_le_mul_right _ hle
      rw [List.getElem?_append_right (by rw [h1]; omega), h1, show i * sz + j - xs.length * sz = (i - xs.length) * sz + j by omega]
      exact e1

/-- the value is a slice that holds the elements ys -/
def Reads (w : World) (F : Nat → Prop) (β : Nat → Option Hdr) (sz : Nat) (ys : List (List AV)) (xv : Value) : Prop :=
  ∃ a c news, xv = .slice a ys.length c ∧ (a = none → ys = []) ∧ Flat w F β sz ys news ∧ ∀ ad, a = some ad → ∀ (j : Nat) (u : Value), news[j]? = some u → w.cell? (ad.add j) = some u

/-- the elements that an abstract slice holds -/
def Cont (H : Nat → Option ABlk) (v : AV) (sz : Nat) (ys : List (List AV)) (ids : List Nat) : Prop :=
  (v = .nils ∧ ys = [] ∧ ids = []) ∨ (v = .lst sz ys ∧ ids = []) ∨ (∃ id, v = .osl id ∧ H id = some (.row sz ys) ∧ ids = [id]) ∨
    (∃ id lo hi mx xs, v = .sub id sz lo hi mx ∧ H id = some (.row sz xs) ∧ lo ≤ hi ∧ hi ≤ xs.length ∧ (∀ m, mx = some m → hi ≤ m) ∧ ys = (xs.drop lo).take (hi - lo) ∧ ids = [id])

theorem row_flat {w : World} {F : Nat → Prop} {β : Nat → Option Hdr} {g : Hdr} {sz : Nat} {xs : List (List AV)} (h : BlkR w F β g (.row sz xs)) {b : Nat} (hb : g.blk = some b) {lo n : Nat} (hn : lo + n ≤ xs.length) :
    ∃ arr ty, w.heap[b]? = some (.cells arr ty (0, 0)) ∧ g.cap * sz ≤ arr.size ∧ Flat w F β sz ((xs.drop lo).take n) ((arr.toList.drop (lo * sz)).take (n * sz)) := by
  obtain ⟨h1, h2, h3, h4, h5, h6⟩ := h
  obtain ⟨arr, ty, e1, e2, e3⟩ := h6 b hb
  have hle : (lo + n) * sz ≤ arr.size := Nat.le_trans (Nat.mul_le_mul_right _ (by omega)) e2
  rw [Nat.add_mul] at hle
  have el : ∀ (k : Nat) (c : List AV), ((xs.drop lo).take n)[k]? = some c → k < n ∧ xs[lo + k]? = some c := fun k c hk => by
    rw [List.getElem?_take, List.getElem?_drop] at hk
    split at hk
    · exact ⟨‹_›, hk⟩
    · cases hk
  refine ⟨arr, ty, e1, e2, ?_, fun k c hk => h5 _ _ (el k c hk).2, fun k c j u hk hj => ?_⟩
  · simp only [List.length_take, List.length_drop, Array.length_toList]
    have : min n (xs.length - lo) = n := by omega
    rw [this]
    omega
  · obtain ⟨hkn, hk'⟩ := el k c hk
    obtain ⟨v, r1, r2⟩ := e3 _ c j u hk' hj
    refine ⟨v, ?_, r2⟩
    have hj' := (List.getElem?_eq_some_iff.1 hj).1
    rw [(h5 _ _ hk').1] at hj'
    rw [List.getElem?_take, if_pos (flat_lt hkn hj'), List.getElem?_drop, Array.getElem?_toList]
    rw [← r1, Nat.add_mul, Nat.add_assoc]

theorem cont_reads {w : World} {F : Nat → Prop} {β : Nat → Option Hdr} {H : Nat → Option ABlk} {v : AV} {sz : Nat} {ys : List (List AV)} {ids : List Nat} {xv : Value} (h : Cont H v sz ys ids) (hK : Known H ids w F β) (hv : RV w F β v xv) : Reads w F β sz ys xv := by
  rcases h with ⟨rfl, rfl, rfl⟩ | ⟨rfl, rfl⟩ | ⟨id, rfl, hH, rfl⟩ | ⟨id, lo, hi, mx, xs, rfl, hH, h1, h2, hm, rfl, rfl⟩
  · cases hv
    exact ⟨none, 0, [], rfl, fun _ => rfl, ⟨by simp, fun k c hk => by simp at hk, fun k c j u hk => by simp at hk⟩, fun ad e => by cases e⟩
  · cases hv with
    | lst _ _ a cap vs h1 h2 h3 h4 h5 h6 h7 =>
      refine ⟨a, cap, (List.range (ys.length * sz)).map fun p => vs (p / sz) (p % sz), rfl, fun e => List.eq_nil_of_length_eq_zero (by have := h3 e; omega), ⟨by simp, h5, fun k c j u hk hj => ?_⟩, fun ad e j u hu => ?_⟩
      · have hj' := (List.getElem?_eq_some_iff.1 hj).1
        have hk' := (List.getElem?_eq_some_iff.1 hk).1
        rw [(h5 _ _ hk).1] at hj'
        have hsz : 0 < sz := by omega
        refine ⟨vs k j, ?_, (h7 k c j u hk hj).up⟩
        have e1 : (k * sz + j) / sz = k := by rw [Nat.add_comm, Nat.add_mul_div_right _ _ hsz, Nat.div_eq_of_lt hj', Nat.zero_add]
        have e2 : (k * sz + j) % sz = j := by rw [Nat.add_comm, Nat.add_mul_mod_self_right, Nat.mod_eq_of_lt hj']
        simp [flat_lt hk' hj', e1, e2]
      · rw [List.getElem?_map] at hu
        by_cases hp : j < ys.length * sz
        · simp [hp] at hu
          obtain ⟨d1, d2, d3⟩ := divmod hp
          have hk : ys[j / sz]? = some ys[j / sz] := List.getElem?_eq_getElem d1
          have hl := (h5 _ _ hk).1
          have hj : ys[j / sz][j % sz]? = some (ys[j / sz][j % sz]'(by omega)) := List.getElem?_eq_getElem _
          have := h6 ad _ _ _ _ e hk hj
          obtain ⟨b, off, sp⟩ := ad
          obtain ⟨hsp, _⟩ := h4 _ e (Nat.lt_of_le_of_lt (Nat.zero_le _) d1)
          rw [add_none hsp, ← hu]
          rw [Nat.add_assoc, d3] at this
          exact this
        · simp [hp] at hu
  · obtain ⟨g, e1, hb⟩ := hK id (by simp) _ hH
    cases hv with
    | osl _ g' e2 =>
      rw [e1] at e2
      cases e2
      obtain ⟨h1, h2, h3, h4, h5, h6⟩ := hb
      refine ⟨ownBase g.blk 0, g.cap, ?_⟩
      cases hblk : g.blk with
      | none =>
        have h0 : ys = [] := List.eq_nil_of_length_eq_zero (by have := h4 hblk; omega)
        subst h0
        exact ⟨[], by rw [h1], fun _ => rfl, ⟨by simp, fun k c hk => by simp at hk, fun k c j u hk => by simp at hk⟩, fun ad e => by cases e⟩
      | some b =>
        obtain ⟨arr, ty, r1, r2, r3⟩ := row_flat ⟨h1, h2, h3, h4, h5, h6⟩ hblk (lo := 0) (n := ys.length) (by omega)
        simp only [List.drop_zero, List.take_length, Nat.zero_mul] at r3
        refine ⟨_, by rw [h1], (fun e => by cases e), r3, fun ad e j u hu => ?_⟩
        cases e
        rw [Addr.add_lit]
        rw [Nat.zero_add]
        rw [List.getElem?_take] at hu
        split at hu
        · simp [World.cell?, r1]; simpa using hu
        · cases hu
  · obtain ⟨g, e1, hb⟩ := hK id (by simp) _ hH
    cases hv with
    | sub _ _ _ _ _ g' e2 =>
      rw [e1] at e2
      cases e2
      obtain ⟨q1, q2, q3, q4, q5, q6⟩ := hb
      have hlen : ((xs.drop lo).take (hi - lo)).length = hi - lo := by simp; omega
      refine ⟨ownBase g.blk (if mx.getD g.cap = lo then 0 else lo * sz), mx.getD g.cap - lo, ?_⟩
      cases hblk : g.blk with
      | none =>
        have h0 : xs = [] := List.eq_nil_of_length_eq_zero (by have := q4 hblk; omega)
        subst h0
        have hz : hi - lo = 0 := by simp at h2; omega
        refine ⟨[], by rw [hlen], fun _ => by simp, ⟨by simp, fun k c hk => by simp at hk, fun k c j u hk => by simp at hk⟩, fun ad e => by cases e⟩
      | some b =>
        obtain ⟨arr, ty, r1, r2, r3⟩ := row_flat ⟨q1, q2, q3, q4, q5, q6⟩ hblk (lo := lo) (n := hi - lo) (by omega)
        refine ⟨_, by rw [hlen], (fun e => by cases e), r3, fun ad e j u hu => ?_⟩
        cases e
        rw [List.getElem?_take] at hu
        split at hu
        · rename_i hj
          have hne : ¬ mx.getD g.cap = lo := fun e => by
            have h0 : hi ≤ lo := by
              cases mx with
              | none => simp only [Option.getD_none] at e; omega
              | some m => simp only [Option.getD_some] at e; have := hm m rfl; omega
            have : hi - lo = 0 := by omega
            rw [this] at hj
            simp at hj
          rw [if_neg hne, Addr.add_lit]
          rw [List.getElem?_drop] at hu
          simp [World.cell?, r1]
          simpa using hu
        · cases hu
end Go.Proofs.Ytkefkegknacpjaa.Ax
