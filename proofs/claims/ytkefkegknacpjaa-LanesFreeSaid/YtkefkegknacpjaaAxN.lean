/- Calls, as steps of a walk. Nothing of the dump is used here. -/
import Derived.Test.YtkefkegknacpjaaAxM
namespace Go.Proofs.Ytkefkegknacpjaa.Ax
open Go.RowKit
set_option linter.unusedVariables false
set_option linter.unusedSimpArgs false

def ABlk.ren (ρ : Nat → Nat) : ABlk → ABlk
  | .box c => .box (AV.renL ρ c)
  | .row sz xs => .row sz (xs.map (AV.renL ρ))
  | .dead => .dead

theorem liveB_ren {ρ : Nat → Nat} {b k : ABlk} (h : liveB (b.ren ρ) = some k) : liveB b = some b ∧ k = b.ren ρ := by
  cases b with
  | box c => exact ⟨rfl, (Option.some.inj h).symm⟩
  | row sz xs => exact ⟨rfl, (Option.some.inj h).symm⟩
  | dead => cases h

theorem liveB_some {b k : ABlk} (h : liveB b = some k) : b = k := by
  cases b with
  | box c => exact Option.some.inj h
  | row sz xs => exact Option.some.inj h
  | dead => cases h

/-- the elements of rows name no blocks -/
def ABlk.ok : ABlk → Prop
  | .box _ => True
  | .row _ xs => ∀ c ∈ xs, AV.niL c = true
  | .dead => True

def ABlk.flat : ABlk → Prop
  | .box c => AV.flatL c = true
  | .row _ xs => ∀ c ∈ xs, AV.flatL c = true
  | .dead => True

theorem ren_one (ρ : Nat → Nat) (u : AV) : (u.ren ρ).one = u.one := by cases u <;> simp only [AV.ren] <;> rfl

theorem renL_one {ρ : Nat → Nat} {c : List AV} (h : ∀ u ∈ c, u.one = true) : ∀ u ∈ AV.renL ρ c, u.one = true := fun u hu => by
  obtain ⟨j, hj⟩ := List.getElem?_of_mem hu
  rw [renL_at] at hj
  cases hc : c[j]? with
  | none => rw [hc] at hj; cases hj
  | some y => rw [hc] at hj; cases hj; rw [ren_one]; exact h y (List.mem_of_getElem? hc)

theorem BlkR.ren {w : World} {F : Nat → Prop} {β β' : Nat → Option Hdr} {ρ : Nat → Nat} {g : Hdr} {k : ABlk} (h : BlkR w F β g k) (hβ : ∀ id g, β id = some g → β' (ρ id) = some g) : BlkR w F β' g (k.ren ρ) := by
  cases k with
  | box c =>
    obtain ⟨b, arr, ty, h1, h2, h3, h4⟩ := h
    refine ⟨b, arr, ty, h1, h2, (renL_len ρ c).trans h3, fun j u v hu hv => ?_⟩
    rw [renL_at] at hu
    cases hc : c[j]? with
    | none => rw [hc] at hu; cases hu
    | some y => rw [hc] at hu; cases hu; exact (h4 j y v hc hv).ren hβ
  | row sz xs =>
    obtain ⟨h1, h2, h3, h4, h5, h6⟩ := h
    have el : ∀ (k : Nat) (c : List AV), (xs.map (AV.renL ρ))[k]? = some c → ∃ c0, xs[k]? = some c0 ∧ c = AV.renL ρ c0 := fun k c hk => by
      rw [List.getElem?_map] at hk
      cases hx : xs[k]? with
      | none => rw [hx] at hk; cases hk
      | some c0 => rw [hx] at hk; cases hk; exact ⟨c0, rfl, rfl⟩
    refine ⟨by rw [List.length_map]; exact h1, by rw [List.length_map]; exact h2, h3, h4, fun k c hk => ?_, fun b e => ?_⟩
    · obtain ⟨c0, e1, rfl⟩ := el k c hk
      exact ⟨by rw [renL_len]; exact (h5 k c0 e1).1, renL_one (h5 k c0 e1).2⟩
    · obtain ⟨arr, ty, r1, r2, r3⟩ := h6 b e
      refine ⟨arr, ty, r1, r2, fun k c j u hkc hj => ?_⟩
      obtain ⟨c0, e1, rfl⟩ := el k c hkc
      rw [renL_at] at hj
      cases hc : c0[j]? with
      | none => rw [hc] at hj; cases hj
      | some y =>
        rw [hc] at hj
        cases hj
        obtain ⟨v, s1, s2⟩ := r3 k c0 j y e1 hc
        exact ⟨v, s1, s2.ren hβ⟩
  | dead => exact h.elim

theorem BlkR.unren {w : World} {F : Nat → Prop} {β β' : Nat → Option Hdr} {ρ : Nat → Nat} {g : Hdr} {k : ABlk} (h : BlkR w F β g (k.ren ρ)) (hβ : ∀ id g, β (ρ id) = some g → β' id = some g) : BlkR w F β' g k := by
  cases k with
  | box c =>
    obtain ⟨b, arr, ty, h1, h2, h3, h4⟩ := h
    refine ⟨b, arr, ty, h1, h2, (renL_len ρ c).symm.trans h3, fun j u v hu hv => ?_⟩
    exact (h4 j (u.ren ρ) v (by rw [renL_at, hu]; rfl) hv).unren rfl hβ
  | row sz xs =>
    obtain ⟨h1, h2, h3, h4, h5, h6⟩ := h
    have el : ∀ (k : Nat) (c : List AV), xs[k]? = some c → (xs.map (AV.renL ρ))[k]? = some (AV.renL ρ c) := fun k c hk => by rw [List.getElem?_map, hk]; rfl
    refine ⟨by rw [List.length_map] at h1; exact h1, by rw [List.length_map] at h2; exact h2, h3, h4, fun k c hk => ?_, fun b e => ?_⟩
    · obtain ⟨q1, q2⟩ := h5 k _ (el k c hk)
      refine ⟨by rw [renL_len] at q1; exact q1, fun u hu => ?_⟩
      obtain ⟨j, hj⟩ := List.getElem?_of_mem hu
      have := q2 (u.ren ρ) (List.mem_of_getElem? (i := j) (by rw [renL_at, hj]; rfl))
      rwa [ren_one] at this
    · obtain ⟨arr, ty, r1, r2, r3⟩ := h6 b e
      refine ⟨arr, ty, r1, r2, fun k c j u hkc hj => ?_⟩
      obtain ⟨v, s1, s2⟩ := r3 k _ j (u.ren ρ) (el k c hkc) (by rw [renL_at, hj]; rfl)
      exact ⟨v, s1, s2.unren rfl hβ⟩
  | dead => exact h.elim

mutual
theorem ren_ni (ρ : Nat → Nat) : ∀ (u : AV), u.ni = true → u.ren ρ = u
  | .ptr .., h | .eptr .., h | .osl _, h | .sub .., h => by simp [AV.ni] at h
  | .agg c, h => by simp only [AV.ni] at h; simp only [AV.ren, renL_ni ρ c h]
  | .tup c, h => by simp only [AV.ni] at h; simp only [AV.ren, renL_ni ρ c h]
  | .fn f c, h => by simp only [AV.ni] at h; simp only [AV.ren, renL_ni ρ c h]
  | .any, _ | .int .., _ | .tru, _ | .fls, _ | .bool _, _ | .str _, _ | .nilp, _ | .val _, _ | .nils, _ | .iptr _, _ | .lst .., _ => by simp only [AV.ren]
theorem renL_ni (ρ : Nat → Nat) : ∀ (c : List AV), AV.niL c = true → AV.renL ρ c = c
  | [], _ => by simp only [AV.renL]
  | x :: c, h => by
    simp only [AV.niL, Bool.and_eq_true] at h
    simp only [AV.renL, ren_ni ρ x h.1, renL_ni ρ c h.2]
end

theorem row_ren {ρ : Nat → Nat} {sz : Nat} {xs : List (List AV)} (h : ∀ c ∈ xs, AV.niL c = true) : (ABlk.row sz xs).ren ρ = .row sz xs := by
  simp only [ABlk.ren]
  congr 1
  rw [List.map_congr_left (g := id) (fun c hc => renL_ni ρ c (h c hc)), List.map_id]

theorem BlkR.re {w : World} {F F' : Nat → Prop} {β : Nat → Option Hdr} {g : Hdr} {k : ABlk} (h : BlkR w F β g k) (hk : k.flat) : BlkR w F' β g k := by
  cases k with
  | box c =>
    obtain ⟨b, arr, ty, h1, h2, h3, h4⟩ := h
    exact ⟨b, arr, ty, h1, h2, h3, fun j u v hu hv => (h4 j u v hu hv).re (flatL_mem hk (List.mem_of_getElem? hu))⟩
  | row sz xs =>
    obtain ⟨h1, h2, h3, h4, h5, h6⟩ := h
    refine ⟨h1, h2, h3, h4, h5, fun b e => ?_⟩
    obtain ⟨arr, ty, r1, r2, r3⟩ := h6 b e
    refine ⟨arr, ty, r1, r2, fun k c j u hkc hj => ?_⟩
    obtain ⟨v, s1, s2⟩ := r3 k c j u hkc hj
    exact ⟨v, s1, s2.re (flatL_mem (hk c (List.mem_of_getElem? hkc)) (List.mem_of_getElem? hj))⟩
  | dead => exact h.elim

theorem RV.lstN {w : World} {F : Nat → Prop} {β : Nat → Option Hdr} (sz : Nat) (xs : List (List AV)) (a : Option Addr) (n cap : Nat) (vs : Nat → Nat → Value) (hn : xs.length = n) (h1 : n ≤ cap) (h2 : cap ≤ maxLen) (h3 : a = none → cap = 0)
    (h4 : ∀ ad, a = some ad → 0 < n → ad.spot = none ∧ F ad.block) (h5 : ∀ (k : Nat) (c : List AV), xs[k]? = some c → c.length = sz ∧ ∀ u ∈ c, u.one = true)
    (h6 : ∀ (ad : Addr) (k : Nat) (c : List AV) (j : Nat) (u : AV), a = some ad → xs[k]? = some c → c[j]? = some u → w.cell? ⟨ad.block, ad.off + k * sz + j, none⟩ = some (vs k j))
    (h7 : ∀ (k : Nat) (c : List AV) (j : Nat) (u : AV), xs[k]? = some c → c[j]? = some u → RV w F noB u (vs k j)) : RV w F β (.lst sz xs) (.slice a n cap) := by
  subst hn
  exact .lst sz xs a cap vs h1 h2 h3 h4 h5 h6 h7

/-- the state in which a call begins, or ends -/
def entry (args : List AV) (G : List ABlk) : ASt := ⟨fun t => (args[t]?).getD .any, fun id => (G[id]?).bind liveB, G.length⟩

theorem entry_H {args : List AV} {G : List ABlk} {k : Nat} {b : ABlk} (h : (entry args G).H k = some b) : G[k]? = some b ∧ liveB b = some b := by
  have h : (G[k]?).bind liveB = some b := h
  cases e : G[k]? with
  | none => rw [e] at h; cases h
  | some c =>
    rw [e] at h
    have := liveB_some h
    subst this
    exact ⟨rfl, h⟩
theorem entry_at {args : List AV} {G : List ABlk} {k : Nat} {b : ABlk} (h : G[k]? = some b) (hl : liveB b = some b) : (entry args G).H k = some b := by
  show (G[k]?).bind liveB = some b
  rw [h]
  exact hl

/-- a contract: called with these arguments, granted these blocks, the function returns res; then the granted blocks are the first of G', the others are new -/
def AC (P : Program) (f : FuncId) (args : List AV) (G : List ABlk) (res : AV) (G' : List ABlk) : Prop :=
  ∀ (C : Ctx) (w : World) (vals : Array Value), C.γ.length = G.length → C.w0 = w → C.nt = vals.size → vals.size = args.length → Rel C (Below' G.length) (entry args G) ⟨vals, []⟩ w →
    Calls P f vals w fun e w' => ∃ v, e = .returned v ∧ Rel { C with nt := 1 } (Below' G'.length) (entry [res] G') ⟨#[v], []⟩ w'

/-- how a value is handed over: gs are the ids that get the names 0, 1, ..; zs are names of empty rows; bs are ids that are only read from now on -/
inductive ArgR (H : Nat → Option ABlk) (gs zs bs : List Nat) : AV → AV → Prop where
  | any (x : AV) : ArgR H gs zs bs x .any
  | ni (x : AV) : x.ni = true → ArgR H gs zs bs x x
  | tru : ArgR H gs zs bs .tru (.bool true)
  | fls : ArgR H gs zs bs .fls (.bool false)
  | nils (sz : Nat) : ArgR H gs zs bs .nils (.lst sz [])
  | nilz (k : Nat) : k ∈ zs → ArgR H gs zs bs .nils (.osl k)
  | ptr (id j k : Nat) : gs[k]? = some id → ArgR H gs zs bs (.ptr id j) (.ptr k j)
  | eptr (id sz i j k : Nat) : gs[k]? = some id → ArgR H gs zs bs (.eptr id sz i j) (.eptr k sz i j)
  | oslg (id k : Nat) : gs[k]? = some id → ArgR H gs zs bs (.osl id) (.osl k)
  | osl (id sz : Nat) (xs : List (List AV)) : id ∈ bs → H id = some (.row sz xs) → (∀ c ∈ xs, AV.niL c = true) → ArgR H gs zs bs (.osl id) (.lst sz xs)
  | oslr (id sz : Nat) (xs xs' : List (List AV)) : id ∈ bs → H id = some (.row sz xs) → xs.length = xs'.length → (∀ (i : Nat) (c c' : List AV), xs[i]? = some c → xs'[i]? = some c' → c.length = c'.length) → (∀ c ∈ xs', AV.niL c = true) → (∀ c ∈ xs', ∀ u ∈ c, u.one = true) →
      (∀ (i : Nat) (c c' : List AV) (j : Nat) (u u' : AV), xs[i]? = some c → xs'[i]? = some c' → c[j]? = some u → c'[j]? = some u' → ArgR H gs zs bs u u') → ArgR H gs zs bs (.osl id) (.lst sz xs')
  | sub (id sz lo hi : Nat) (mx : Option Nat) (xs : List (List AV)) : id ∈ bs → H id = some (.row sz xs) → (∀ c ∈ xs, AV.niL c = true) → lo ≤ hi → hi ≤ xs.length → (∀ m, mx = some m → hi ≤ m ∧ m ≤ xs.length) → ArgR H gs zs bs (.sub id sz lo hi mx) (.lst sz ((xs.drop lo).take (hi - lo)))
  | ibox (id j : Nat) (c : List AV) : id ∈ bs → H id = some (.box c) → c.all AV.one = true → AV.niL c = true → ArgR H gs zs bs (.ptr id j) (.iptr (c.drop j))
  | irow (id sz i j : Nat) (xs : List (List AV)) (c : List AV) : id ∈ bs → H id = some (.row sz xs) → xs[i]? = some c → AV.niL c = true → ArgR H gs zs bs (.eptr id sz i j) (.iptr (c.drop j))
  | agg (c c' : List AV) : c.length = c'.length → (∀ (j : Nat) (u u' : AV), c[j]? = some u → c'[j]? = some u' → ArgR H gs zs bs u u') → ArgR H gs zs bs (.agg c) (.agg c')
  | tup (c c' : List AV) : c.length = c'.length → (∀ (j : Nat) (u u' : AV), c[j]? = some u → c'[j]? = some u' → ArgR H gs zs bs u u') → ArgR H gs zs bs (.tup c) (.tup c')
  | fn (f : FuncId) (c c' : List AV) : c.length = c'.length → (∀ (j : Nat) (u u' : AV), c[j]? = some u → c'[j]? = some u' → ArgR H gs zs bs u u') → ArgR H gs zs bs (.fn f c) (.fn f c')

theorem ArgR.rv {H : Nat → Option ABlk} {gs zs bs : List Nat} {x y : AV} (h : ArgR H gs zs bs x y) {w : World} {F F' : Nat → Prop} {β β' : Nat → Option Hdr} (hF : ∀ b, F b → F' b) (hg : ∀ (k id : Nat) (g : Hdr), gs[k]? = some id → β id = some g → β' k = some g) (hz : ∀ k ∈ zs, β' k = some ⟨none, 0, 0⟩)
    (hb : ∀ id ∈ bs, ∀ k, H id = some k → ∃ g, β id = some g ∧ BlkR w F β g k ∧ ∀ b, g.blk = some b → F' b) : ∀ {v : Value}, RV w F β x v → RV w F' β' y v := by
  have up : ∀ {x : AV} {v : Value}, x.ni = true → RV w F β x v → RV w F' β' x v := fun {x v} hx hv => (hv.noIds hx).mono hF (fun _ _ => rfl) (fun _ _ e => by cases e)
  have upn : ∀ {x : AV} {v : Value}, x.ni = true → RV w F β x v → RV w F' noB x v := fun {x v} hx hv => (hv.noIds hx).mono hF (fun _ _ => rfl) (fun _ _ e => e)
  induction h with
  | any x => exact fun _ => .any _
  | ni x hx => exact up hx
  | tru => intro v hv; cases hv; exact .bool true
  | fls => intro v hv; cases hv; exact .bool false
  | nils sz =>
    intro v hv
    cases hv
    exact .lst sz [] none 0 (fun _ _ => undef) (Nat.le_refl _) (by simp [maxLen]) (fun _ => rfl) (fun ad e => by cases e) (fun k c e => by simp at e) (fun ad k c j u e => by cases e) (fun k c j u e => by simp at e)
  | nilz k hk =>
    intro v hv
    cases hv
    exact .osl k ⟨none, 0, 0⟩ (hz k hk)
  | ptr id j k hk =>
    intro v hv
    cases hv with
    | ptr _ _ b g e1 e2 => exact .ptr k j b g (hg k id g hk e1) e2
  | eptr id sz i j k hk =>
    intro v hv
    cases hv with
    | eptr _ _ _ _ b g e1 e2 => exact .eptr k sz i j b g (hg k id g hk e1) e2
  | oslg id k hk =>
    intro v hv
    cases hv with
    | osl _ g e1 => exact .osl k g (hg k id g hk e1)
  | osl id sz xs hm hH hn =>
    intro v hv
    obtain ⟨g, e1, e2, e3⟩ := hb id hm _ hH
    cases hv with
    | osl _ g' e4 =>
      rw [e1] at e4
      cases e4
      obtain ⟨h1, h2, h3, h4, h5, h6⟩ := e2
      rw [h1]
      cases hblk : g.blk with
      | none =>
        have h0 : xs = [] := List.eq_nil_of_length_eq_zero (by have := h4 hblk; omega)
        subst h0
        exact .lst sz [] none g.cap (fun _ _ => undef) (Nat.zero_le _) h3 (fun _ => h4 hblk) (fun ad e => by cases e) (fun k c e => by simp at e) (fun ad k c j u e => by cases e) (fun k c j u e => by simp at e)
      | some b =>
        obtain ⟨arr, ty, r1, r2, r3⟩ := h6 b hblk
        refine .lst sz xs (some ⟨b, 0, none⟩) g.cap (fun k j => arr.getD (k * sz + j) undef) h2 h3 (fun e => by cases e) (fun ad e _ => by cases e; exact ⟨rfl, e3 b hblk⟩) h5 (fun ad k c j u e hk hj => ?_) (fun k c j u hk hj => ?_)
        · cases e
          obtain ⟨v, s1, s2⟩ := r3 k c j u hk hj
          simp [World.cell?, r1, Array.getD_eq_getD_getElem?, s1]
        · obtain ⟨v, s1, s2⟩ := r3 k c j u hk hj
          rw [Array.getD_eq_getD_getElem?, s1]
          exact upn (niL_mem (hn c (List.mem_of_getElem? hk)) (List.mem_of_getElem? hj)) s2
  | oslr id sz xs xs' hm hH hl hcl hn hone _ ih =>
    intro v hv
    obtain ⟨g, e1, e2, e3⟩ := hb id hm _ hH
    cases hv with
    | osl _ g' e4 =>
      rw [e1] at e4
      cases e4
      obtain ⟨h1, h2, h3, h4, h5, h6⟩ := e2
      rw [h1, hl]
      cases hblk : g.blk with
      | none =>
        have h0 : xs' = [] := List.eq_nil_of_length_eq_zero (by have := h4 hblk; omega)
        subst h0
        exact .lst sz [] none g.cap (fun _ _ => undef) (Nat.zero_le _) h3 (fun _ => h4 hblk) (fun ad e => by cases e) (fun k c e => by simp at e) (fun ad k c j u e => by cases e) (fun k c j u e => by simp at e)
      | some b =>
        obtain ⟨arr, ty, r1, r2, r3⟩ := h6 b hblk
        have at' : ∀ {k : Nat} {c' : List AV} {j : Nat} {u' : AV}, xs'[k]? = some c' → c'[j]? = some u' → ∃ c u, xs[k]? = some c ∧ c[j]? = some u := fun {k c' j u'} hk hj => by
          have hk1 : k < xs.length := by rw [hl]; exact (List.getElem?_eq_some_iff.1 hk).1
          have hc := List.getElem?_eq_getElem hk1
          have hj1 : j < (xs[k]).length := by rw [hcl k _ c' hc hk]; exact (List.getElem?_eq_some_iff.1 hj).1
          exact ⟨_, _, hc, List.getElem?_eq_getElem hj1⟩
        refine .lst sz xs' (some ⟨b, 0, none⟩) g.cap (fun k j => arr.getD (k * sz + j) undef) (by omega) h3 (fun e => by cases e) (fun ad e _ => by cases e; exact ⟨rfl, e3 b hblk⟩) (fun k c' hk => ?_) (fun ad k c' j u' e hk hj => ?_) (fun k c' j u' hk hj => ?_)
        · have hk1 : k < xs.length := by rw [hl]; exact (List.getElem?_eq_some_iff.1 hk).1
          have hc := List.getElem?_eq_getElem hk1
          exact ⟨by rw [← hcl k _ c' hc hk]; exact (h5 k _ hc).1, hone c' (List.mem_of_getElem? hk)⟩
        · cases e
          obtain ⟨c, u, hc, hu⟩ := at' hk hj
          obtain ⟨v, s1, s2⟩ := r3 k c j u hc hu
          simp [World.cell?, r1, Array.getD_eq_getD_getElem?, s1]
        · obtain ⟨c, u, hc, hu⟩ := at' hk hj
          obtain ⟨v, s1, s2⟩ := r3 k c j u hc hu
          rw [Array.getD_eq_getD_getElem?, s1]
          exact (ih k c c' j u u' hc hk hu hj s2).noIds (niL_mem (hn c' (List.mem_of_getElem? hk)) (List.mem_of_getElem? hj))
  | sub id sz lo hi mx xs hm hH hn l1 l2 l3 =>
    intro v hv
    obtain ⟨g, e1, e2, e3⟩ := hb id hm _ hH
    have hlen : ((xs.drop lo).take (hi - lo)).length = hi - lo := by simp; omega
    cases hv with
    | sub _ _ _ _ _ g' e4 =>
      rw [e1] at e4
      cases e4
      obtain ⟨h1, h2, h3, h4, h5, h6⟩ := e2
      have hcap : hi ≤ mx.getD g.cap ∧ mx.getD g.cap ≤ g.cap := by
        cases mx with
        | none => simp only [Option.getD_none]; omega
        | some m => have := l3 m rfl; simp only [Option.getD_some]; omega
      have el : ∀ (k : Nat) (c : List AV), ((xs.drop lo).take (hi - lo))[k]? = some c → k < hi - lo ∧ xs[lo + k]? = some c := fun k c hk => by
        rw [List.getElem?_take, List.getElem?_drop] at hk
        split at hk
        · exact ⟨‹_›, hk⟩
        · cases hk
      cases hblk : g.blk with
      | none =>
        have h0 : xs = [] := List.eq_nil_of_length_eq_zero (by have := h4 hblk; omega)
        subst h0
        have hc0 := h4 hblk
        refine .lstN sz _ none _ _ (fun _ _ => undef) hlen (by omega) (by omega) (fun _ => by omega) (fun ad e => by cases e) (fun k c e => by simp at e) (fun ad k c j u e => by cases e) (fun k c j u e => by simp at e)
      | some b =>
        obtain ⟨arr, ty, r1, r2, r3⟩ := h6 b hblk
        refine .lstN sz _ (some ⟨b, _, none⟩) _ _ (fun k j => arr.getD ((lo + k) * sz + j) undef) hlen (by omega) (by omega) (fun e => by cases e) (fun ad e _ => by cases e; exact ⟨rfl, e3 b hblk⟩) (fun k c hk => h5 _ c (el k c hk).2) (fun ad k c j u e hk hj => ?_) (fun k c j u hk hj => ?_)
        · cases e
          obtain ⟨hkn, hk'⟩ := el k c hk
          obtain ⟨v, s1, s2⟩ := r3 _ c j u hk' hj
          have hne : ¬ mx.getD g.cap = lo := by omega
          rw [if_neg hne]
          rw [Nat.add_mul] at s1
          simp [World.cell?, r1, Array.getD_eq_getD_getElem?, s1, Nat.add_mul]
        · obtain ⟨hkn, hk'⟩ := el k c hk
          obtain ⟨v, s1, s2⟩ := r3 _ c j u hk' hj
          rw [Array.getD_eq_getD_getElem?, s1]
          exact upn (niL_mem (hn c (List.mem_of_getElem? hk')) (List.mem_of_getElem? hj)) s2
  | ibox id j c hm hH h1 hn =>
    intro v hv
    obtain ⟨g, e1, e2, e3⟩ := hb id hm _ hH
    obtain ⟨b, arr, ty, q1, q2, q3⟩ := e2
    cases hv with
    | ptr _ _ b' g' e4 e5 =>
      rw [e1] at e4
      cases e4
      rw [q1] at e5
      cases e5
      refine .iptr _ _ j (fun k => arr.getD (j + k) undef) (e3 _ q1) (fun k u hu => ?_) (fun k u hu => ?_) (fun k u hu => ?_) <;> rw [List.getElem?_drop] at hu
      · obtain ⟨v, s1, s2⟩ := q3.at hu
        simp [World.cell?, q2, Array.getD_eq_getD_getElem?, s1]
      · rw [List.all_eq_true] at h1
        exact h1 u (List.mem_of_getElem? hu)
      · obtain ⟨v, s1, s2⟩ := q3.at hu
        simp only [Array.getD_eq_getD_getElem?, s1, Option.getD_some]
        exact upn (niL_mem hn (List.mem_of_getElem? hu)) s2
  | irow id sz i j xs c hm hH hc hn =>
    intro v hv
    obtain ⟨g, e1, e2, e3⟩ := hb id hm _ hH
    obtain ⟨h1, h2, h3, h4, h5, h6⟩ := e2
    cases hv with
    | eptr _ _ _ _ b g' e4 e5 =>
      rw [e1] at e4
      cases e4
      obtain ⟨arr, ty, r1, r2, r3⟩ := h6 b e5
      refine .iptr _ _ _ (fun k => arr.getD (i * sz + (j + k)) undef) (e3 _ e5) (fun k u hu => ?_) (fun k u hu => ?_) (fun k u hu => ?_) <;> rw [List.getElem?_drop] at hu
      · obtain ⟨v, s1, s2⟩ := r3 i c _ u hc hu
        simp [World.cell?, r1, Array.getD_eq_getD_getElem?, s1, Nat.add_assoc]
      · exact (h5 i c hc).2 u (List.mem_of_getElem? hu)
      · obtain ⟨v, s1, s2⟩ := r3 i c _ u hc hu
        simp only [Array.getD_eq_getD_getElem?, s1, Option.getD_some]
        exact upn (niL_mem hn (List.mem_of_getElem? hu)) s2
  | agg c c' h1 _ ih =>
    intro v hv
    cases hv with
    | agg _ cs q1 q2 =>
      refine .agg c' cs (h1 ▸ q1) (fun j u' v hu' hv => ?_)
      have hj : j < c.length := by rw [h1]; exact (List.getElem?_eq_some_iff.1 hu').1
      exact ih j _ u' (List.getElem?_eq_getElem hj) hu' (q2 j _ v (List.getElem?_eq_getElem hj) hv)
  | tup c c' h1 _ ih =>
    intro v hv
    cases hv with
    | tup _ cs q1 q2 =>
      refine .tup c' cs (h1 ▸ q1) (fun j u' v hu' hv => ?_)
      have hj : j < c.length := by rw [h1]; exact (List.getElem?_eq_some_iff.1 hu').1
      exact ih j _ u' (List.getElem?_eq_getElem hj) hu' (q2 j _ v (List.getElem?_eq_getElem hj) hv)
  | fn f c c' h1 _ ih =>
    intro v hv
    cases hv with
    | fn _ _ cs q1 q2 =>
      refine .fn f c' cs (h1 ▸ q1) (fun j u' v hu' hv => ?_)
      have hj : j < c.length := by rw [h1]; exact (List.getElem?_eq_some_iff.1 hu').1
      exact ih j _ u' (List.getElem?_eq_getElem hj) hu' (q2 j _ v (List.getElem?_eq_getElem hj) hv)
end Go.Proofs.Ytkefkegknacpjaa.Ax
