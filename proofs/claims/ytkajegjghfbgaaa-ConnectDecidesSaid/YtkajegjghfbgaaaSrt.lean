/- slices.SortFunc for structs, as a contract of the abstract walker; over the kit's contract. Nothing of the dump is used here. -/
import Derived.Test.YtkajegjghfbgaaaExA
import Derived.Shelf.SlSortCmp.WholeK
import Derived.Shelf.SlSortCmp.NoneTotal
namespace Go.Proofs.Ytkajegjghfbgaaa.Ex
open Go.RowKit Go.Proofs.Ytkajegjghfbgaaa.Ax Go.Sort Go.Shelf
set_option linter.unusedVariables false
set_option linter.unusedSimpArgs false

/-- what slices.SortFunc makes of a list -/
def sortL {α : Type} [Inhabited α] (ok : α → Bool) (cf : α → α → Int) (l : List α) : Option (List α) :=
  if l.all ok = true ∧ l.length ≤ 1000000 then some (pdq (ltOf cf) l.toArray 0 l.length (Lib.bitLen l.length) true true).toList else none

theorem sortL_some {α : Type} [Inhabited α] {ok : α → Bool} {cf : α → α → Int} (hO : SWO (ltOf cf)) {l r : List α} (h : sortL ok cf l = some r) :
    l.all ok = true ∧ l.length ≤ 1000000 ∧ r.length = l.length ∧ r.Perm l ∧ r.Pairwise (fun a b => cf b a < 0 → False) ∧ r = (pdq (ltOf cf) l.toArray 0 l.length (Lib.bitLen l.length) true true).toList := by
  unfold sortL at h
  split at h
  · rename_i c
    cases h
    have hs := pdq_sorts (ltOf cf) hO l.toArray 0 l.length (Lib.bitLen l.length) true true (Nat.zero_le _) (by simp) (.inl rfl)
    obtain ⟨⟨p1, p2, p3⟩, p4⟩ := hs
    generalize hd : pdq (ltOf cf) l.toArray 0 l.length (Lib.bitLen l.length) true true = d at p1 p2 p3 p4 ⊢
    have p1' : d.size = l.length := by simpa using p1
    refine ⟨c.1, c.2, by simpa using p1', ?_, ?_, rfl⟩
    · have e1 : (d.extract 0 l.length).toList = d.toList := by rw [← p1']; simp
      have e2 : (l.toArray.extract 0 l.length).toList = l := by simp
      rw [e1, e2] at p3
      exact p3
    · rw [List.pairwise_iff_getElem]
      intro i j hi hj hij hlt
      have hj' : j < d.size := by simpa using hj
      have hi' : i < d.size := by simpa using hi
      have := p4 i j (Nat.zero_le _) hij (by omega)
      rw [getElem!_pos d j hj', getElem!_pos d i hi'] at this
      unfold ltOf at this
      simp only [Array.getElem_toList] at hlt
      simp [hlt] at this
  · cases h

theorem sort_ac {P : Program} {ρ : Ren} (L : SlLaysF0.n6 P ρ) {α : Type} [Inhabited α] (k : Nat) (hk0 : 0 < k) (aE : ∀ w, (isAgg (ρ.t 24)).run P w = .ok true w) (zE : ∀ w, (Go.sizeOf (ρ.t 24)).run P w = .ok k w) (enc : α → List AV) (encV : α → List Value) (cl : α → α) (ok : α → Bool) (hok : ∀ x, ok x = true → cl x = x)
    (hk : ∀ x, (encV x).length = k) (hl : ∀ x, (enc x).length = k) (h1 : ∀ x, ∀ v ∈ encV x, v.oneCell' = true) (hone : ∀ x, ∀ u ∈ enc x, u.one = true)
    (hr1 : ∀ (x : α) (w : World) (F : Nat → Prop) (β : Nat → Option Hdr) (j : Nat) (u : AV) (v : Value), (enc x)[j]? = some u → RV w F β u v → (encV x)[j]? = some v)
    (hr2 : ∀ (x : α) (w : World) (F : Nat → Prop) (β : Nat → Option Hdr) (j : Nat) (u : AV) (v : Value), (enc x)[j]? = some u → (encV x)[j]? = some v → RV w F β u v)
    (cf : α → α → Int) (hO : SWO (ltOf cf)) (g : Nat) (eg : ∀ args w, (callFunc g args).run P w = .ok (.enter g args) w)
    (hcmp : ∀ blk off size w, CmpLays P g #[] (fun x => encV (cl x)) k cf blk off size w) (l r : List α) (hF : sortL ok cf l = some r) : AC P (ρ.f 6) [.osl 0, .fn g []] [.row k (l.map enc)] (.tup []) [.row k (r.map enc)] := by
  obtain ⟨s1, s2, s3, s4, s5, s6⟩ := sortL_some hO hF
  intro C w vals hC hw0 hnt hlen hR
  obtain ⟨β, F, hB⟩ := hR
  obtain ⟨hd, e1, hb, e3⟩ := hB.live 0 _ rfl
  have v0 := hB.env 0
  have v1 := hB.env 1
  have hs2 : vals.size = 2 := hlen
  have hv : ∃ x y, vals = #[x, y] ∧ RV w F β (.osl 0) x ∧ RV w F β (.fn g []) y := by
    refine ⟨vals.getD 0 undef, vals.getD 1 undef, ?_, v0, v1⟩
    apply Array.ext
    · simpa using hs2
    · intro i h1 h2
      have hi : i < 2 := by omega
      match i, hi with
      | 0, _ => simp [Array.getD, hs2]
      | 1, _ => simp [Array.getD, hs2]
  obtain ⟨x, y, rfl, q0, q1⟩ := hv
  cases q0 with
  | osl _ hd' e2 =>
  rw [e1] at e2
  cases e2
  cases q1 with
  | fn _ _ cs z1 z2 =>
  have hcs : cs = #[] := by
    have : cs.size = 0 := by simpa using z1.symm
    exact Array.eq_empty_of_size_eq_zero this
  subst hcs
  obtain ⟨b1, b2, b3, b4, b5, b6⟩ := hb
  rw [List.length_map] at b1 b2
  have key : Calls P (ρ.f 6) #[.slice (ownBase hd.blk 0) hd.len hd.cap, .func (.func g) #[] #[]] w fun e w' => e = .returned (.tuple #[]) ∧ Same w w' hd.blk ∧ (∀ b, hd.blk = some b → b < w.heap.size → ¬ F b → BlkR w' F β hd (.row k (r.map enc))) ∧ (hd.blk = none → r = []) := by
    cases hblk : hd.blk with
    | none =>
      have h0 : l = [] := List.eq_nil_of_length_eq_zero (by have := b4 hblk; omega)
      subst h0
      have hr0 : r = [] := List.eq_nil_of_length_eq_zero s3
      have hn := AnyF.slices_SortFunc_none { L with } (ownBase none 0) hd.cap (.func (.func g) #[] #[]) w
      rw [b1]
      refine hn.mono fun e w' ⟨he, hw⟩ => ?_
      subst hw
      exact ⟨he, ⟨rfl, rfl, rfl, Nat.le_refl _, fun _ _ _ => rfl⟩, fun b e => (by cases e), fun _ => hr0⟩
    | some b =>
      obtain ⟨arr, ty, a1, a2, a3⟩ := b6 b hblk
      obtain ⟨lt0, _, _⟩ := e3 b hblk
      have hcl : ∀ i (hi : i < l.length), cl l[i] = l[i] := fun i hi => hok _ (List.all_eq_true.1 s1 _ (List.getElem_mem hi))
      have hH : HoldsK (fun x => encV (cl x)) k w b 0 l.toArray := by
        intro j hj
        rw [size_flatK] at hj
        rw [get_flatK _ _ _ _ hj]
        simp only [List.size_toArray] at hj
        obtain ⟨g1, g2, g3⟩ := divmod hj
        have hi : (l.map enc)[j / k]? = some (enc l[j / k]) := by rw [List.getElem?_map, List.getElem?_eq_getElem g1]; rfl
        obtain ⟨v, hv, hr⟩ := a3 (j / k) _ (j % k) _ hi (List.getElem?_eq_getElem (by rw [hl]; exact g2))
        have hv2 := hr1 _ w F β (j % k) _ v (List.getElem?_eq_getElem (by rw [hl]; exact g2)) hr
        rw [g3] at hv
        have e : (l.toArray)[j / k]! = l[j / k] := by rw [getElem!_pos _ _ (by simpa using g1)]; simp
        simp only [e, hcl _ g1, id]
        refine ⟨?_, by simp [World.frozen?, a1]⟩
        rw [Nat.zero_add]
        simp only [World.cell?, a1]
        rw [List.getElem!_eq_getElem?_getD, hv2]
        simp [hv]
      have hc := AnyQ.slices_SortFunc_eq L k aE zE (fun x => encV (cl x)) (fun x => hk (cl x)) (fun x => h1 (cl x)) cf hO g #[] b 0 hd.cap l.toArray w eg (hcmp b 0 _ w) hH lt0 (by simp only [List.size_toArray]; omega)
      simp only [List.size_toArray] at hc
      rw [b1]
      refine hc.mono fun e w' ⟨he, n, os, hw⟩ => ?_
      subst hw
      have hr : pdq (ltOf cf) l.toArray 0 l.length (Lib.bitLen l.length) true true = r.toArray := by rw [s6]
      rw [hr]
      have hsame : Same w (sortWorldK (fun x => encV (cl x)) k w b 0 n r.toArray os) (some b) := by
        refine ⟨rfl, rfl, rfl, ?_, fun i hi hne => ?_⟩
        · simp [sortWorldK, putRowK, putRow, mapBlock, grow, ahead]
        · have hib : b ≠ i := fun e => hne (by rw [e])
          unfold sortWorldK putRowK putRow
          rw [heap_grow_old _ _ (by simpa [mapBlock, ahead] using hi)]
          simp [mapBlock, ahead, Array.getElem?_modify, hib]
      refine ⟨he, hsame, fun b' hb' hlt hnF => ?_, fun e => (by cases e)⟩
      cases hb'
      refine ⟨by rw [List.length_map, s3]; exact b1, by rw [List.length_map, s3]; exact b2, b3, fun e => (by rw [hblk] at e; cases e), fun i c hi => ?_, fun b' hb' => ?_⟩
      · rw [List.getElem?_map] at hi
        cases hx : r[i]? with
        | none => rw [hx] at hi; cases hi
        | some x => rw [hx] at hi; cases hi; exact ⟨hl x, hone x⟩
      · rw [hblk] at hb'
        cases hb'
        refine ⟨putCells id 0 (flatK (fun x => encV (cl x)) k r.toArray) arr, ty, ?_, by simpa [putCells] using a2, fun i c j u hi hj => ?_⟩
        · unfold sortWorldK putRowK putRow
          rw [heap_grow_old _ _ (by simpa [mapBlock, ahead] using lt0)]
          simp [mapBlock, ahead, Array.getElem?_modify, a1, onCells]
        · rw [List.getElem?_map] at hi
          cases hx : r[i]? with
          | none => rw [hx] at hi; cases hi
          | some x =>
            rw [hx] at hi
            cases hi
            have hil : i < r.length := (List.getElem?_eq_some_iff.1 hx).1
            have hjl : j < k := by rw [← hl x]; exact (List.getElem?_eq_some_iff.1 hj).1
            have hlt2 : i * k + j < r.length * k := flat_lt hil hjl
            have hcx : cl x = x := hok _ (List.all_eq_true.1 s1 _ (s4.mem_iff.1 (List.mem_of_getElem? hx)))
            have d1 : (i * k + j) / k = i := by rw [Nat.add_comm, Nat.add_mul_div_right _ _ hk0, Nat.div_eq_of_lt hjl, Nat.zero_add]
            have d2 : (i * k + j) % k = j := by rw [Nat.add_comm, Nat.add_mul_mod_self_right, Nat.mod_eq_of_lt hjl]
            have hjv : j < (encV x).length := by rw [hk]; exact hjl
            have hasz : i * k + j < arr.size := by
              have := Nat.mul_le_mul_right k b2
              rw [s3] at hlt2
              omega
            refine ⟨(encV x)[j], ?_, hr2 x _ F β j u _ hj (List.getElem?_eq_getElem hjv)⟩
            have ex : (r.toArray)[i]! = x := by
              rw [getElem!_pos _ _ (by simpa using hil)]
              simp only [List.getElem_toArray]
              have := List.getElem?_eq_getElem hil
              rw [hx] at this
              exact (Option.some.inj this).symm
            have hf : (flatK (fun x => encV (cl x)) k r.toArray)[i * k + j]! = (encV x)[j] := by
              rw [get_flatK _ _ _ _ (by simpa using hlt2), d1, d2, ex, hcx, List.getElem!_eq_getElem?_getD, List.getElem?_eq_getElem hjv]
              rfl
            simp only [putCells, Array.getElem?_mapIdx, Array.getElem?_eq_getElem hasz, Option.map_some, Nat.zero_le, true_and, Nat.zero_add, size_flatK, List.size_toArray, hlt2, if_true, Nat.sub_zero, id, hf]
  refine key.mono fun e w' ⟨he, hs, hblk, hnil⟩ => ⟨_, he, β, F, ?_⟩
  have hH0 : ∀ id kk, (entry [.tup []] [.row k (r.map enc)]).H id = some kk → id = 0 ∧ kk = .row k (r.map enc) := fun id kk e => by
    obtain ⟨q1, q2⟩ := entry_H e
    match id, q1 with
    | 0, q1 => cases q1; exact ⟨rfl, rfl⟩
  have hFw : ∀ b, F b → w'.heap[b]? = w.heap[b]? := fun b hb => hs.block b (hB.news b hb).1 (fun e => (e3 b e.symm).2.1 hb)
  have hbr : BlkR w' F β hd (.row k (r.map enc)) := by
    cases hbk : hd.blk with
    | some b => exact hblk b hbk (e3 b hbk).1 (e3 b hbk).2.1
    | none =>
      have hr0 := hnil hbk
      subst hr0
      have : l.length = 0 := by simpa using s3.symm
      exact ⟨by simpa using b1.trans this, Nat.zero_le _, b3, b4, fun i c hi => by simp at hi, fun b e => by rw [hbk] at e; cases e⟩
  refine ⟨fun t => ?_, rfl, rfl, fun id kk e => ?_, fun i1 i2 k1 k2 g1 g2 b h1 h2 h3 h4 h5 h6 => ?_, hB.dom, hB.gr, hB.sub, fun b hb => ?_, hs.os.trans hB.os, hs.tape.trans hB.tape, hs.output.trans hB.output, Nat.le_trans hB.grow hs.size, fun b hb hne => ?_, fun gl => ?_⟩
  · match t with
    | 0 => exact .tup [] #[] rfl (fun j u v hu => by simp at hu)
    | t + 1 => exact .any _
  · obtain ⟨rfl, rfl⟩ := hH0 id kk e
    exact ⟨hd, e1, hbr, fun b hb => ⟨Nat.lt_of_lt_of_le (e3 b hb).1 hs.size, (e3 b hb).2⟩⟩
  · rw [(hH0 i1 k1 h1).1, (hH0 i2 k2 h2).1]
  · exact ⟨Nat.lt_of_lt_of_le (hB.news b hb).1 hs.size, (hB.news b hb).2⟩
  · rw [hs.block b (Nat.lt_of_lt_of_le hb hB.grow) (fun e => ?_)]
    · exact hB.block b hb hne
    · have hm : C.γ[0]? = some hd := by
        have h0 : 0 < C.γ.length := by rw [hC]; simp
        have hg0 := hB.gr 0 _ (List.getElem?_eq_getElem h0)
        rw [e1] at hg0
        rw [List.getElem?_eq_getElem h0, Option.some.inj hg0]
      exact hne hd (List.mem_of_getElem? hm) e.symm
  · exact (hB.glo gl).mono (fun _ x => x) hFw (fun _ _ e => e)
end Go.Proofs.Ytkajegjghfbgaaa.Ex
