/- Values that came in (integers, strings, bools, structs and slices of them, nested as they are): what their cells hold, and that they stand for their abstract values. Nothing of the dump is used here. -/
import Derived.Test.YtkajegjghfbgaaaExL
import Derived.Deep.Slices
import Derived.WalkKit
import Derived.OpenShut
namespace Go.Proofs.Ytkajegjghfbgaaa.Ex
open Go.RowKit Go.ChangeShapes Go.WideShapes Go.Proofs.Ytkajegjghfbgaaa.Ax
set_option linter.unusedVariables false
set_option linter.unusedSimpArgs false

inductive CK where
  | int (k : IntKind)
  | str
  | bool
  | sl (ks : List CK)

mutual
def KV : CK → AV → Prop
  | .int k, u => ∃ n, u = .int k n ∧ (Lit.int k n).wf = true
  | .str, u => ∃ s : ByteArray, u = .str s ∧ s.size ≤ maxLen
  | .bool, u => ∃ b, u = .bool b
  | .sl ks, u => ∃ xs : List (List AV), u = .lst ks.length xs ∧ ∀ c ∈ xs, KVs ks c
def KVs : List CK → List AV → Prop
  | [], c => c = []
  | k :: ks, c => ∃ u us, c = u :: us ∧ KV k u ∧ KVs ks us
end

theorem KV.one {k : CK} {u : AV} (h : KV k u) : u.one = true := by
  cases k with
  | int k => rw [KV] at h; obtain ⟨n, rfl, _⟩ := h; rfl
  | str => rw [KV] at h; obtain ⟨n, rfl, _⟩ := h; rfl
  | bool => rw [KV] at h; obtain ⟨n, rfl⟩ := h; rfl
  | sl ks => rw [KV] at h; obtain ⟨n, rfl, _⟩ := h; rfl
theorem KVs.len : ∀ {ks : List CK} {c : List AV}, KVs ks c → c.length = ks.length
  | [], c, h => by rw [KVs] at h; rw [h]; rfl
  | k :: ks, c, h => by
    rw [KVs] at h
    obtain ⟨u, us, rfl, _, h⟩ := h
    rw [List.length_cons, List.length_cons, KVs.len h]
theorem KVs.ones : ∀ {ks : List CK} {c : List AV}, KVs ks c → ∀ u ∈ c, u.one = true
  | [], c, h, u, hu => by rw [KVs] at h; rw [h] at hu; cases hu
  | k :: ks, c, h, u, hu => by
    rw [KVs] at h
    obtain ⟨v, us, rfl, h1, h⟩ := h
    rcases List.mem_cons.1 hu with rfl | hu
    · exact h1.one
    · exact KVs.ones h u hu
theorem KVs.append : ∀ {ks ls : List CK} {c d : List AV}, KVs ks c → KVs ls d → KVs (ks ++ ls) (c ++ d)
  | [], ls, c, d, h, h2 => by rw [KVs] at h; rw [h]; exact h2
  | k :: ks, ls, c, d, h, h2 => by
    rw [KVs] at h
    obtain ⟨v, us, rfl, h1, h⟩ := h
    rw [List.cons_append, List.cons_append, KVs]
    exact ⟨v, us ++ d, rfl, h1, KVs.append h h2⟩

/-- the kinds of the cells of a type -/
def kindFs (P : Program) (f : TypeId → Option (List CK)) : Nat → List Field → Option (List CK)
  | _, [] => some []
  | off, fd :: rest =>
    match f fd.type with
    | none => none
    | some ks =>
      if fd.offset = off ∧ ks.length = P.cellsOf fd.type then (kindFs P f (off + ks.length) rest).map (ks ++ ·) else none
def repK : Nat → List CK → List CK
  | 0, _ => []
  | n + 1, ks => repK n ks ++ ks
theorem repK_len (ks : List CK) : ∀ n : Nat, (repK n ks).length = n * ks.length
  | 0 => by rw [repK, List.length_nil, Nat.zero_mul]
  | n + 1 => by rw [repK, List.length_append, repK_len ks n, Nat.succ_mul]
def kindK (P : Program) : Nat → TypeId → Option (List CK)
  | 0, _ => none
  | n + 1, t =>
    match P.underlying t with
    | some .bool => some [.bool]
    | some (.int k) => some [.int k]
    | some .string => some [.str]
    | some (.slice e) =>
      match kindK P n e with
      | some ks => if ks.length = P.cellsOf e ∧ 0 < ks.length then some [.sl ks] else none
      | none => none
    | some (.array m e) =>
      match kindK P n e with
      | some ks => if ks.length = P.cellsOf e ∧ (repK m ks).length = P.cellsOf t then some (repK m ks) else none
      | none => none
    | some (.struct fs) =>
      match kindFs P (kindK P n) 0 fs.toList with
      | some ks => if ks.length = P.cellsOf t then some ks else none
      | none => none
    | _ => none

/-- cells that stand for abstract values -/
def Stand (w : World) (cs : List Value) (c : List AV) : Prop := c.length = cs.length ∧ ∀ (j : Nat) (u : AV) (v : Value), c[j]? = some u → cs[j]? = some v → RV w (fun b => b < w.heap.size) noB u v
theorem Stand.one {w : World} {v : Value} {u : AV} (h : RV w (fun b => b < w.heap.size) noB u v) : Stand w [v] [u] := by
  refine ⟨rfl, fun j a b ha hb => ?_⟩
  match j, ha, hb with
  | 0, ha, hb => cases ha; cases hb; exact h
theorem Stand.append {w : World} {cs ds : List Value} {c d : List AV} (h : Stand w cs c) (k : Stand w ds d) : Stand w (cs ++ ds) (c ++ d) := by
  refine ⟨by rw [List.length_append, List.length_append, h.1, k.1], fun j u v hu hv => ?_⟩
  by_cases hj : j < c.length
  · rw [List.getElem?_append_left hj] at hu
    rw [List.getElem?_append_left (h.1 ▸ hj)] at hv
    exact h.2 j u v hu hv
  · rw [List.getElem?_append_right (by omega)] at hu
    rw [List.getElem?_append_right (by rw [← h.1]; omega), ← h.1] at hv
    exact k.2 _ u v hu hv

variable {H : Type} {enc : TypeId × Value → H} {P : Program} {w : World} {base : Nat} {spare : Nat → Bool} {held : Bool}

theorem kind_fields {f : TypeId → Option (List CK)} {fuel : Nat} {cs : List Value}
    (hf : ∀ t ks cs x, f t = some ks → DataW.trod enc P w base spare held fuel t cs = some x → ∃ c, KVs ks c ∧ Stand w cs c) : ∀ (fs : List Field) (off : Nat) (ks : List CK),
    kindFs P f off fs = some ks → (∀ fd ∈ fs, ∃ y, DataW.trod enc P w base spare held fuel fd.type ((cs.drop fd.offset).take (P.cellsOf fd.type)) = some y) → ∃ c, KVs ks c ∧ Stand w ((cs.drop off).take ks.length) c
  | [], off, ks, h, _ => by
    simp only [kindFs, Option.some.injEq] at h
    subst h
    refine ⟨[], by rw [KVs], ?_⟩
    rw [List.length_nil, List.take_zero]
    exact ⟨rfl, fun j u v hu hv => by cases hu⟩
  | fd :: rest, off, ks, h, hy => by
    simp only [kindFs] at h
    split at h
    · cases h
    · rename_i k1 hk1
      split at h
      · rename_i hc
        obtain ⟨ho, hl⟩ := hc
        simp only [Option.map_eq_some_iff] at h
        obtain ⟨k2, hk2, rfl⟩ := h
        obtain ⟨y, hy1⟩ := hy fd (by simp)
        obtain ⟨c1, a1, b1⟩ := hf _ _ _ _ hk1 hy1
        obtain ⟨c2, a2, b2⟩ := kind_fields hf rest (off + k1.length) k2 hk2 (fun g hg => hy g (by simp [hg]))
        rw [ho, ← hl] at b1
        refine ⟨c1 ++ c2, a1.append a2, ?_⟩
        have := b1.append b2
        rw [List.length_append, List.take_add, List.drop_drop]
        exact this
      · cases h

theorem cell_plain (b off i : Nat) {spot : Option Nat} {v : Value} (h : w.cell? ((⟨b, off, spot⟩ : Addr).add i) = some v) : w.cell? ⟨b, off + i, none⟩ = some v := by
  unfold Addr.add at h
  split at h
  · rename_i h0
    subst h0
    cases spot with
    | none => exact h
    | some s =>
      simp only [World.cell?] at h
      split at h <;> simp at h
  · exact h

theorem kind_trod : ∀ (n : Nat) (t : TypeId) (ks : List CK) (fuel : Nat) (cs : List Value) (x : DataW H × List MemPlace), kindK P n t = some ks → DataW.trod enc P w base spare held fuel t cs = some x → ∃ c, KVs ks c ∧ Stand w cs c
  | 0, _, _, _, _, _, h, _ => by simp [kindK] at h
  | n + 1, t, ks, fuel, cs, x, h, ht => by
    unfold kindK at h
    split at h
    · rename_i hu
      cases h
      obtain ⟨b, rfl, _⟩ := DataW.trod_bool hu ht
      exact ⟨[.bool b], by rw [KVs]; exact ⟨_, _, rfl, by rw [KV]; exact ⟨b, rfl⟩, by rw [KVs]⟩, .one (.bool b)⟩
    · rename_i k hu
      cases h
      obtain ⟨m, rfl, _, hw⟩ := DataW.trod_int hu ht
      exact ⟨[.int k m], by rw [KVs]; exact ⟨_, _, rfl, by rw [KV]; exact ⟨m, rfl, hw⟩, by rw [KVs]⟩, .one (.int k m)⟩
    · rename_i hu
      cases h
      obtain ⟨s, rfl, _, hs⟩ := DataW.trod_string hu ht
      exact ⟨[.str s], by rw [KVs]; exact ⟨_, _, rfl, by rw [KV]; exact ⟨s, rfl, hs⟩, by rw [KVs]⟩, .one (.str s)⟩
    · rename_i e hu
      split at h
      · rename_i ks' hk
        split at h
        · rename_i hc
          obtain ⟨hc, hp⟩ := hc
          cases h
          rcases Go.Deep.open_slice hu ht with ⟨hcs, _⟩ | ⟨a, len, cap, m, n', D, Pl, hcs, _, hl, hm, hmm, _, hall⟩
          · subst hcs
            refine ⟨[.lst ks'.length []], by rw [KVs]; exact ⟨_, _, rfl, by rw [KV]; exact ⟨[], rfl, fun c hc => by cases hc⟩, by rw [KVs]⟩, .one ?_⟩
            exact RV.lst ks'.length [] none 0 (fun _ _ => .bool true) (Nat.le_refl _) (by simp [maxLen]) (fun _ => rfl) (fun ad e => by cases e) (fun k c hk => by cases hk) (fun ad k c j u e => by cases e) (fun k c j u hk => by cases hk)
          · subst hcs
            have hlm : len ≤ m := by rw [hmm]; split <;> omega
            obtain ⟨b, off, spot⟩ := a
            have h1 : ∀ i, i < len → ∃ y : List AV × List Value, KVs ks' y.1 ∧ Stand w y.2 y.1 ∧ (∀ j v, y.2[j]? = some v → w.cell? ((⟨b, off, spot⟩ : Addr).add (i * ks'.length + j)) = some v) := by
              intro i hi
              obtain ⟨cs, hcs, htr⟩ := hall i (by omega)
              obtain ⟨c, hc1, hc2⟩ := kind_trod n e ks' _ _ _ hk htr
              refine ⟨(c, cs), hc1, hc2, fun j v hv => ?_⟩
              obtain ⟨_, hlen, hget⟩ := World.cells?_some hcs
              have hj : j < P.cellsOf e := by rw [← hlen]; exact (List.getElem?_eq_some_iff.1 hv).1
              have := hget j hj
              rw [Go.Deep.add_add, hv, ← hc] at this
              exact this
            obtain ⟨F, hF⟩ := Go.Deep.choose_lt h1
            refine ⟨[.lst ks'.length ((List.range len).map fun i => (F i).1)], by
              rw [KVs]
              refine ⟨_, _, rfl, ?_, by rw [KVs]⟩
              rw [KV]
              refine ⟨_, rfl, fun c hc => ?_⟩
              obtain ⟨i, hi, rfl⟩ := List.mem_map.1 hc
              exact (hF i (List.mem_range.1 hi)).1, .one ?_⟩
            have hat : ∀ k c, ((List.range len).map fun i => (F i).1)[k]? = some c → k < len ∧ c = (F k).1 := by
              intro k c hk
              rw [List.getElem?_map] at hk
              by_cases hkl : k < len
              · rw [List.getElem?_range hkl] at hk
                simp only [Option.map_some, Option.some.injEq] at hk
                exact ⟨hkl, hk.symm⟩
              · rw [List.getElem?_eq_none (by simpa using hkl)] at hk
                cases hk
            have hvs : ∀ k c j u, ((List.range len).map fun i => (F i).1)[k]? = some c → c[j]? = some u → ∃ v, (F k).2[j]? = some v ∧ RV w (fun b => b < w.heap.size) noB u v ∧ w.cell? ⟨b, off + k * ks'.length + j, none⟩ = some v := by
              intro k c j u hk hj
              obtain ⟨hkl, rfl⟩ := hat k c hk
              obtain ⟨f1, f2, f3⟩ := hF k hkl
              have hjl : j < (F k).2.length := by rw [← f2.1]; exact (List.getElem?_eq_some_iff.1 hj).1
              have hv := List.getElem?_eq_getElem hjl
              refine ⟨_, hv, f2.2 j u _ hj hv, ?_⟩
              have := cell_plain b off _ (f3 j _ hv)
              rwa [Nat.add_assoc]
            have key := RV.lst (w := w) (F := fun b => b < w.heap.size) (β := noB) ks'.length ((List.range len).map fun i => (F i).1) (some ⟨b, off, spot⟩) cap (fun k j => ((F k).2[j]?).getD (.bool true)) (by simpa using hl) hm (fun e => by cases e) (fun ad e h0 => ?_) (fun k c hk => ?_) (fun ad k c j u e hk hj => ?_) (fun k c j u hk hj => ?_)
            · simp only [List.length_map, List.length_range] at key
              exact key
            · cases e
              simp only [List.length_map, List.length_range] at h0
              obtain ⟨f1, f2, f3⟩ := hF 0 h0
              have hl0 : 0 < (F 0).2.length := by rw [← f2.1, f1.len]; exact hp
              have h0 := f3 0 _ (List.getElem?_eq_getElem hl0)
              have hb := World.block_lt_of_cell? w _ h0
              have hspot : spot = none := by
                cases spot with
                | none => rfl
                | some s =>
                  simp only [Addr.add, Nat.zero_mul, Nat.add_zero, if_true, World.cell?] at h0
                  split at h0 <;> simp at h0
              refine ⟨hspot, ?_⟩
              simpa [Addr.add] using hb
            · obtain ⟨hkl, rfl⟩ := hat k c hk
              exact ⟨(hF k hkl).1.len, (hF k hkl).1.ones⟩
            · cases e
              obtain ⟨v, h1, h2, h3⟩ := hvs k c j u hk hj
              rw [h1]
              exact h3
            · obtain ⟨v, h1, h2, h3⟩ := hvs k c j u hk hj
              simp only [h1, Option.getD_some]
              exact h2
        · cases h
      · cases h
    · rename_i n' e hu
      split at h
      · rename_i ks' hk
        split at h
        · rename_i hc
          obtain ⟨hc, hl⟩ := hc
          cases h
          obtain ⟨xs, m, rfl, _, hcl, hxl, hall⟩ := DataW.trod_array hu ht
          have key : ∀ i, i ≤ n' → ∃ c, KVs (repK i ks') c ∧ Stand w (cs.take (i * ks'.length)) c := by
            intro i
            induction i with
            | zero =>
              intro _
              refine ⟨[], by rw [repK, KVs], ?_⟩
              rw [Nat.zero_mul, List.take_zero]
              exact ⟨rfl, fun j u v hu hv => by cases hu⟩
            | succ i ih =>
              intro hi
              obtain ⟨c1, a1, b1⟩ := ih (by omega)
              have hx := hall i (by omega)
              rw [List.getElem?_eq_getElem (by omega)] at hx
              obtain ⟨c2, a2, b2⟩ := kind_trod n e ks' _ _ _ hk hx
              rw [← hc] at b2
              refine ⟨c1 ++ c2, by rw [repK]; exact a1.append a2, ?_⟩
              rw [Nat.succ_mul, List.take_add]
              exact b1.append b2
          obtain ⟨c, h1, h2⟩ := key n' (Nat.le_refl _)
          rw [repK_len] at hl
          rw [hl, ← hcl, List.take_length] at h2
          exact ⟨c, h1, h2⟩
        · cases h
      · cases h
    · rename_i fs hu
      split at h
      · rename_i ks' hk
        split at h
        · rename_i hl
          cases h
          obtain ⟨xs, m, rfl, _, hcl, hxl, hall⟩ := DataW.trod_struct hu ht
          obtain ⟨c, h1, h2⟩ := kind_fields (cs := cs) (fun t' ks' cs' x' h1 h2 => kind_trod n t' ks' m cs' x' h1 h2) fs.toList 0 ks hk (fun fd hfd => by
            obtain ⟨i, hi, rfl⟩ := List.getElem_of_mem hfd
            have hi' : i < fs.size := by simpa using hi
            have := hall i fs.toList[i] (by simp [hi'])
            rw [this, List.getElem?_eq_getElem (by omega)]
            exact ⟨_, rfl⟩)
          rw [List.drop_zero, hl, ← hcl, List.take_length] at h2
          exact ⟨c, h1, h2⟩
        · cases h
      · cases h
    · cases h

/-- a struct that came in, by its typed value -/
theorem agg_open {α : Type} (en : α → List AV) (Q : α → Prop) {t : TypeId} {ks : List CK} {n : Nat} {cs : Array Value} {d : DataW H} {p : List MemPlace}
    (hα : ∀ c, KVs ks c → ∃ x, en x = c ∧ Q x) (hk : kindK P n t = some ks) (h : DataW.Trod enc P w base spare held t (.agg cs) d p) : ∃ x : α, Q x ∧ RV w (fun b => b < w.heap.size) noB (.agg (en x)) (.agg cs) := by
  obtain ⟨fuel, hf⟩ := h
  obtain ⟨c, h1, h2⟩ := kind_trod n t ks _ _ _ hk hf
  obtain ⟨x, rfl, hQ⟩ := hα c h1
  refine ⟨x, hQ, .agg _ _ ?_ fun j u v hu hv => ?_⟩
  · have := h2.1
    simpa [Value.cells] using this
  · exact h2.2 j u v hu (by simpa [Value.cells] using hv)
theorem rows_ex {α : Type} {en : α → List AV} {Q : α → Prop} {ks : List CK} (hα : ∀ c, KVs ks c → ∃ x, en x = c ∧ Q x) : ∀ (xs : List (List AV)), (∀ c ∈ xs, KVs ks c) → ∃ l : List α, xs = l.map en ∧ ∀ x ∈ l, Q x
  | [], _ => ⟨[], rfl, fun x hx => by cases hx⟩
  | c :: xs, h => by
    obtain ⟨x, hx, hq⟩ := hα c (h c (List.mem_cons_self ..))
    obtain ⟨l, hl, hQ⟩ := rows_ex hα xs (fun d hd => h d (List.mem_cons_of_mem _ hd))
    refine ⟨x :: l, by rw [List.map_cons, hx, hl], fun y hy => ?_⟩
    rcases List.mem_cons.1 hy with rfl | hy
    · exact hq
    · exact hQ y hy
theorem kv_int {k : IntKind} {ks : List CK} {c : List AV} (h : KVs (.int k :: ks) c) : ∃ n us, c = .int k n :: us ∧ (Lit.int k n).wf = true ∧ KVs ks us := by
  rw [KVs] at h
  obtain ⟨u, us, rfl, h1, h2⟩ := h
  rw [KV] at h1
  obtain ⟨n, rfl, hn⟩ := h1
  exact ⟨n, us, rfl, hn, h2⟩
theorem kv_str {ks : List CK} {c : List AV} (h : KVs (.str :: ks) c) : ∃ (s : ByteArray) (us : List AV), c = .str s :: us ∧ s.size ≤ maxLen ∧ KVs ks us := by
  rw [KVs] at h
  obtain ⟨u, us, rfl, h1, h2⟩ := h
  rw [KV] at h1
  obtain ⟨n, rfl, hn⟩ := h1
  exact ⟨n, us, rfl, hn, h2⟩
theorem kv_bool {ks : List CK} {c : List AV} (h : KVs (.bool :: ks) c) : ∃ (b : Bool) (us : List AV), c = .bool b :: us ∧ KVs ks us := by
  rw [KVs] at h
  obtain ⟨u, us, rfl, h1, h2⟩ := h
  rw [KV] at h1
  obtain ⟨n, rfl⟩ := h1
  exact ⟨n, us, rfl, h2⟩
theorem kv_sl {k : List CK} {ks : List CK} {c : List AV} (h : KVs (.sl k :: ks) c) : ∃ (xs : List (List AV)) (us : List AV), c = .lst k.length xs :: us ∧ (∀ d ∈ xs, KVs k d) ∧ KVs ks us := by
  rw [KVs] at h
  obtain ⟨u, us, rfl, h1, h2⟩ := h
  rw [KV] at h1
  obtain ⟨n, rfl, hn⟩ := h1
  exact ⟨n, us, rfl, hn, h2⟩
theorem kv_nil {c : List AV} (h : KVs [] c) : c = [] := by rwa [KVs] at h
theorem okWide_arr {P : Program} {w : World} {r : Reach} {base : Nat} {t : TypeId} {v : Value} {n : Nat} {e : TypeId} (ht : P.underlying t = some (.array n e)) (h : Value.okWide P w r base t v) : ∃ cs, v = .agg cs ∧ cs.size = P.cellsOf t := by
  simp only [Value.okWide, ht] at h
  obtain ⟨cs, h1, h2, _⟩ := h
  exact ⟨cs, h1, h2⟩
/-- a slice of structs that came in, by its typed values -/
theorem sl_open {α : Type} (en : α → List AV) (Q : α → Prop) {t : TypeId} {ks : List CK} {n : Nat} {v : Value} {d : DataW H} {p : List MemPlace} (h1 : v.cells = #[v])
    (hα : ∀ c, KVs ks c → ∃ x, en x = c ∧ Q x) (hk : kindK P n t = some [.sl ks]) (h : DataW.Trod enc P w base spare held t v d p) : ∃ l : List α, (∀ x ∈ l, Q x) ∧ RV w (fun b => b < w.heap.size) noB (.lst ks.length (l.map en)) v := by
  obtain ⟨fuel, hf⟩ := h
  obtain ⟨c, hc, h2⟩ := kind_trod n t [.sl ks] _ _ _ hk hf
  obtain ⟨xs, us, rfl, hx, hn⟩ := kv_sl hc
  obtain ⟨l, rfl, hQ⟩ := rows_ex hα xs hx
  refine ⟨l, hQ, h2.2 0 _ _ rfl ?_⟩
  rw [h1]
  rfl
end Go.Proofs.Ytkajegjghfbgaaa.Ex
