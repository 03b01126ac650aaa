/- A row of which one element keeps a row of its own: laws for printed walks. Nothing of the dump is used here. -/
import Derived.Test.YtkajegjghfbgaaaExB
namespace Go.Proofs.Ytkajegjghfbgaaa.Ex
open Go.RowKit Go.Proofs.Ytkajegjghfbgaaa.Ax
set_option linter.unusedVariables false
set_option linter.unusedSimpArgs false

variable {α : Type} {enc : α → List AV}

/-- a row with one element told by its cells -/
def focR (enc : α → List AV) (p : List α) (c : List AV) (q : List α) : List (List AV) := p.map enc ++ ([c] ++ q.map enc)

theorem foc_len {p q : List α} {c : List AV} : (focR enc p c q).length = p.length + 1 + q.length := by simp [focR]; omega
theorem foc_lt {p q : List α} {c : List AV} {n : Nat} (hp : p.length = n) : n < (focR enc p c q).length := by rw [foc_len]; omega
theorem foc_at {p q : List α} {c : List AV} {n : Nat} (hp : p.length = n) : (focR enc p c q)[n]? = some c := by
  subst hp
  simp [focR]
theorem foc_set {p q l : List α} {e x' : α} {c c' : List AV} {n : Nat} {i : Int} (hE : l = p ++ e :: q) (hp : p.length = n) (hi : i = n) (h : c' = enc x') : (focR enc p c q).set n c' = (l.set i.toNat x').map enc := by
  subst hp
  subst hE
  subst h
  rw [show i.toNat = p.length by omega]
  simp [focR]
theorem foc_app {p q : List α} {x : α} {r n : List AV} (h : n = enc x) : focR enc p r q ++ [n] = focR enc p r (q ++ [x]) := by
  subst h
  simp [focR]
theorem foc_one {p : List α} {r : List AV} : p.map enc ++ [r] = focR enc p r [] := by simp [focR]
theorem foc_no {a p q : List α} {e : α} (h : a = p ++ e :: q) (k : a.length ≤ p.length) : False := by
  subst h
  simp at k
  omega
theorem foc_inj {p p' q q' : List α} {e e' : α} (h : p ++ e :: q = p' ++ e' :: q') (k : p.length = p'.length) : p' = p ∧ e' = e ∧ q' = q := by
  obtain ⟨h1, h2⟩ := List.append_inj h k
  cases h2
  exact ⟨h1.symm, rfl, rfl⟩
theorem foc_ap1 {a z : List α} {x : α} {n : Nat} (h : apL a [x] = some z) (k : a.length < n) : z.length ≤ n := by
  obtain ⟨_, rfl⟩ := apL_some h
  simp
  omega
theorem foc_ap2 {a z : List α} {x : α} (h : apL a [x] = some z) : z = a ++ [x] := (apL_some h).2
theorem foc_ap3 {p q z : List α} {e x : α} (h : apL (p ++ e :: q) [x] = some z) : z = p ++ e :: (q ++ [x]) := by
  rw [(apL_some h).2]
  simp

/-- element i of a list that an operation gives -/
def focE {ρ : Type} (o : Option ρ) (f : ρ → List α) (i : Int) : Option (ρ × α) := o.bind fun r => (ixL (f r) i).bind fun e => some (r, e)
theorem focE_some {ρ : Type} {o : Option ρ} {f : ρ → List α} {i : Int} {r : ρ × α} (h : focE o f i = some r) : o = some r.1 ∧ ∃ (p q : List α) (n : Nat), i = n ∧ f r.1 = p ++ r.2 :: q ∧ p.length = n := by
  unfold focE at h
  obtain ⟨r1, h1, h⟩ := bind_some h
  obtain ⟨e, h2, h⟩ := bind_some h
  cases h
  obtain ⟨m, h3, h4⟩ := ixL_some h2
  obtain ⟨h5, h6⟩ := List.getElem?_eq_some_iff.1 h4
  refine ⟨h1, (f r1).take m, (f r1).drop (m + 1), m, h3, ?_, by rw [List.length_take]; omega⟩
  show f r1 = List.take m (f r1) ++ e :: List.drop (m + 1) (f r1)
  rw [← h6, ← List.drop_eq_getElem_cons h5, List.take_append_drop]

theorem RowsA.app3 {H : Nat → Option ABlk} {gs zs bs : List Nat} {xs xs' ys ys' : List (List AV)} {c c' : List AV} (h : RowsA H gs zs bs xs xs') (hc : CellsA H gs zs bs c c') (k : RowsA H gs zs bs ys ys') : RowsA H gs zs bs (xs ++ ([c] ++ ys)) (xs' ++ ([c'] ++ ys')) := by
  obtain ⟨h1, h2⟩ := h
  have hk := RowsA.cons hc k
  obtain ⟨k1, k2⟩ := hk
  refine ⟨by simp at k1 ⊢; omega, fun i d d' hd hd' => ?_⟩
  by_cases hi : i < xs.length
  · rw [List.getElem?_append_left hi] at hd
    rw [List.getElem?_append_left (by omega)] at hd'
    exact h2 i d d' hd hd'
  · rw [List.getElem?_append_right (by omega)] at hd
    rw [List.getElem?_append_right (by omega)] at hd'
    rw [← h1] at hd'
    exact k2 _ d d' hd hd'
theorem focA {H : Nat → Option ABlk} {gs zs bs : List Nat} {p q : List α} {c c' : List AV} (ok : ∀ x, AV.niL (enc x) = true ∧ (enc x).all AV.one = true) (hc : CellsA H gs zs bs c c') : RowsA H gs zs bs (focR enc p c q) (focR enc p c' q) :=
  RowsA.app3 (.ni (map_ok ok p)) hc (.ni (map_ok ok q))
theorem focM {H : Nat → Option ABlk} {gs zs bs : List Nat} {p : List α} {c c' : List AV} (ok : ∀ x, AV.niL (enc x) = true ∧ (enc x).all AV.one = true) (hc : CellsA H gs zs bs c c') : RowsA H gs zs bs (p.map enc ++ [c]) (focR enc p c' []) := by
  rw [← foc_one]
  exact RowsA.app (.ni (map_ok ok p)) hc
theorem focN {H : Nat → Option ABlk} {gs zs bs : List Nat} {p q : List α} {x : α} {c c' d d' : List AV} (ok : ∀ x, AV.niL (enc x) = true ∧ (enc x).all AV.one = true) (hc : CellsA H gs zs bs c c') (hd : CellsA H gs zs bs d d') (h : d' = enc x) : RowsA H gs zs bs (focR enc p c q ++ [d]) (focR enc p c' (q ++ [x])) := by
  rw [← foc_app h]
  exact RowsA.app (focA ok hc) hd
theorem renF {ρ : Nat → Nat} {sz : Nat} {p q : List α} {c c' : List AV} (ok : ∀ x, AV.niL (enc x) = true ∧ (enc x).all AV.one = true) (h : AV.renL ρ c = c') : ABlk.ren ρ (.row sz (focR enc p c q)) = .row sz (focR enc p c' q) := by
  simp only [ABlk.ren, focR, List.map_append, List.map_cons, List.map_nil, h]
  congr 2
  · exact List.map_congr_left (g := id) (fun c hc => renL_ni ρ c (map_ni ok p c hc)) |>.trans (List.map_id _)
  · congr 1
    exact List.map_congr_left (g := id) (fun c hc => renL_ni ρ c (map_ni ok q c hc)) |>.trans (List.map_id _)
/-- an element with a row of its own is changed, its row from then on only read -/
theorem fst_q {l p q : List α} {e x' : α} {i : Int} {m : Nat} {c cs : List AV} {j n : Nat} {xs : List (List AV)} {K : List (List AV) → Prop} (hE : l = p ++ e :: q) (hp : p.length = m) (hi : i = m) (e0 : xs = focR enc p c q) (hn : j + n ≤ c.length) (hs : spliceA c j cs = enc x') (hK : K ((l.set i.toNat x').map enc)) : ∃ c, xs[m]? = some c ∧ j + n ≤ c.length ∧ ∃ zs : List (List AV), xs.set m (spliceA c j cs) = zs ∧ K zs := by
  subst e0
  exact ⟨c, foc_at hp, hn, _, foc_set hE hp hi hs, hK⟩
theorem fld_q {p q : List α} {m : Nat} {c : List AV} {xs : List (List AV)} {K : List AV → Prop} (hp : p.length = m) (e0 : xs = focR enc p c q) (hK : K c) : ∃ c, xs[m]? = some c ∧ K c := by
  subst e0
  exact ⟨c, foc_at hp, hK⟩
theorem fix_q {p q : List α} {i : Int} {m : Nat} {c : List AV} {xs : List (List AV)} {K : Nat → Prop} (hp : p.length = m) (hi : i = m) (e0 : xs = focR enc p c q) (hK : K m) : ∃ m : Nat, i = m ∧ m < xs.length ∧ K m := by
  subst e0
  exact ⟨m, hi, foc_lt hp, hK⟩
theorem foc_ix {p q : List α} {e e' : α} {i : Int} {n : Nat} (h : ixL (p ++ e :: q) i = some e') (hi : i = n) (hp : p.length = n) : e = e' := by
  have h2 := ixL_at h hi
  subst hp
  simpa using h2
theorem flen_q {p q l : List α} {e : α} {c : List AV} {xs : List (List AV)} {K : Int → Prop} (hE : l = p ++ e :: q) (e0 : xs = focR enc p c q) (hK : K (l.length : Int)) : ∃ z : Int, ((xs.length : Nat) : Int) = z ∧ K z := by
  subst e0
  subst hE
  exact ⟨_, by rw [foc_len]; simp; omega, hK⟩
theorem foc_ne {l : List α} {n : Nat} (h : n < l.length) : ((l.length : Int) == (0 : Int)) = false := beq_false_of_ne (by omega)
/-- a part of a row, from now on only read -/
theorem argS {H : Nat → Option ABlk} {gs zs bs : List Nat} {id sz n m : Nat} {mx : Option Nat} {l z : List α} (hm : bs.contains id = true) (hH : H id = some (.row sz (l.map enc))) (ok : ∀ x, AV.niL (enc x) = true ∧ (enc x).all AV.one = true) (f : SubF enc l z n m) (hx : mx = none ∨ mx = some m) : ArgR H gs zs bs (.sub id sz n m mx) (.lst sz (z.map enc)) := by
  rw [← sub_part f]
  refine .sub id sz n m mx _ (List.contains_iff_mem.1 hm) hH (map_ni ok l) f.lo f.le (fun q e => ?_)
  rcases hx with rfl | rfl
  · cases e
  · cases e
    exact ⟨Nat.le_refl _, f.le⟩
theorem argSx {H : Nat → Option ABlk} {gs zs bs : List Nat} {x : AV} {id sz n m : Nat} {mx : Option Nat} {l z : List α} (e : x = .sub id sz n m mx) (hm : bs.contains id = true) (hH : H id = some (.row sz (l.map enc))) (ok : ∀ x, AV.niL (enc x) = true ∧ (enc x).all AV.one = true) (f : SubF enc l z n m) (hx : mx = none ∨ mx = some m) : ArgR H gs zs bs x (.lst sz (z.map enc)) := by
  subst e
  exact argS hm hH ok f hx
/-- an empty row with room -/
def growL {α : Type} (n : Int) : Option (List α) := if 0 ≤ n ∧ n ≤ 16777216 then some [] else none
end Go.Proofs.Ytkajegjghfbgaaa.Ex
