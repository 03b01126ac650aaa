/- Abstract operations: indices, slices, lengths, loads. Nothing of the dump is used here. -/
import Derived.Test.YtkefkegknacpjaaAxC
namespace Go.Proofs.Ytkefkegknacpjaa.Ax
open Go.RowKit
set_option linter.unusedVariables false
set_option linter.unusedSimpArgs false

theorem add_none {b o : Nat} {s : Option Nat} (hs : s = none) (n : Nat) : (⟨b, o, s⟩ : Addr).add n = ⟨b, o + n, none⟩ := by
  subst hs
  exact Addr.add_lit _ _ _

/-- an element of a slice that is only read -/
theorem gives_indexL {P : Program} {tab : Tab} (hT : TabOK P tab) {o : Oper} {env : Nat → AV} {H : Nat → Option ABlk} {x ix : Operand} {t e : TypeId} {ti : TI} {sz eb : Nat} {ez : List AV} {xs : List (List AV)} {k : IntKind} {i m : Nat} {c : List AV}
    (ho : o.op = .indexAddr t x ix) (ht : tab t = some ti) (hd : ti.d = .slc e sz eb ez) (hx0 : ev env x = .lst sz xs) (hi : ev env ix = .int k m) (hc : xs[m]? = some c) (_hu : i = i) : Gives P o env H (.iptr c) [] := by
  intro w F β a hx _
  have h1 := hx x (by simp [ho, Op.operands])
  have h2 := hx ix (by simp [ho, Op.operands])
  rw [hx0] at h1
  rw [hi] at h2
  generalize hvx : a.eval x = vx at h1
  generalize hvi : a.eval ix = vi at h2
  obtain ⟨ii, dd, z, g1, g2, _, _, _, _, g3⟩ := ty_parts (hT t ti ht)
  rw [hd] at g3
  obtain ⟨i', v, rfl, g4, rfl, _, _, _⟩ := td_slc g3.symm
  cases h2
  have hm := (List.getElem?_eq_some_iff.1 hc).1
  cases h1 with
  | lst _ _ ad cap vs k1 k2 k3 k4 k5 k6 k7 =>
    cases ad with
    | none => have := k3 rfl; omega
    | some ad =>
      obtain ⟨b, off, sp⟩ := ad
      obtain ⟨hsp, hF⟩ := k4 _ rfl (by omega)
      have hlt : (m : Int) < (xs.length : Int) := by omega
      refine ⟨.pointer (some ⟨b, off + m * i'.size, none⟩), ?_, .iptr c b _ (vs m) hF (fun j u hu => k6 _ m c j u rfl hc hu) (fun j u hu => (k5 m c hc).2 u (List.mem_of_getElem? hu)) (fun j u hu => k7 m c j u hc hu)⟩
      have hadd : (⟨b, off, sp⟩ : Addr).add (m * i'.size) = ⟨b, off + m * i'.size, none⟩ := add_none hsp _
      simp [execOp, ho, hvx, hvi, Instr.indexAt, asIntOf, run_underlying g2, run_sizeOf w g4, hadd]
      omega

/-- an element of a slice that the call owns -/
theorem gives_indexO {P : Program} {tab : Tab} (hT : TabOK P tab) {o : Oper} {env : Nat → AV} {H : Nat → Option ABlk} {x ix : Operand} {t e : TypeId} {ti : TI} {sz eb : Nat} {ez : List AV} {id : Nat} {xs : List (List AV)} {k : IntKind} {m : Nat}
    (ho : o.op = .indexAddr t x ix) (ht : tab t = some ti) (hd : ti.d = .slc e sz eb ez) (hx0 : ev env x = .osl id) (hi : ev env ix = .int k m) (hH : H id = some (.row sz xs)) (hm : m < xs.length) : Gives P o env H (.eptr id sz m 0) [id] := by
  intro w F β a hx hK
  have h1 := hx x (by simp [ho, Op.operands])
  have h2 := hx ix (by simp [ho, Op.operands])
  rw [hx0] at h1
  rw [hi] at h2
  generalize hvx : a.eval x = vx at h1
  generalize hvi : a.eval ix = vi at h2
  obtain ⟨ii, dd, z, g1, g2, _, _, _, _, g3⟩ := ty_parts (hT t ti ht)
  rw [hd] at g3
  obtain ⟨i', v, rfl, g4, rfl, _, _, _⟩ := td_slc g3.symm
  obtain ⟨h, e1, l1, l2, l3, l4, l5, l6⟩ := hK id (by simp) _ hH
  cases h2
  cases h1 with
  | osl _ h' e2 =>
    rw [e1] at e2
    cases e2
    cases hb : h.blk with
    | none => have := l4 hb; omega
    | some b =>
      have hlt : (m : Int) < (h.len : Int) := by omega
      have hadd : (⟨b, 0, none⟩ : Addr).add (m * i'.size) = ⟨b, m * i'.size, none⟩ := by rw [Addr.add_lit, Nat.zero_add]
      refine ⟨.pointer (some ⟨b, m * i'.size + 0, none⟩), ?_, .eptr id _ m 0 b h e1 hb⟩
      simp only [hb, ownBase, Option.map_some] at hvx
      simp [execOp, ho, hvx, hvi, Instr.indexAt, asIntOf, run_underlying g2, run_sizeOf w g4, hadd]
      omega

/-- an element of an array that is reached by its address -/
theorem gives_indexA {P : Program} {tab : Tab} (hT : TabOK P tab) {o : Oper} {env : Nat → AV} {H : Nat → Option ABlk} {x ix : Operand} {t : TypeId} {ti : TI} {n sz : Nat} {g : Bool} {k : IntKind} {m : Nat} {v : AV}
    (ho : o.op = .indexAddr t x ix) (ht : tab t = some ti) (hd : ti.d = .arr n sz g) (hi : ev env ix = .int k m) (hm : m < n)
    (hv : (∃ id j, ev env x = .ptr id j ∧ v = .ptr id (j + m * sz)) ∨ (∃ id s i j, ev env x = .eptr id s i j ∧ v = .eptr id s i (j + m * sz)) ∨ (∃ c, ev env x = .iptr c ∧ v = .iptr (c.drop (m * sz)))) : Gives P o env H v [] := by
  intro w F β a hx _
  have hcx := hx x (by simp [ho, Op.operands])
  have h2 := hx ix (by simp [ho, Op.operands])
  rw [hi] at h2
  generalize hvi : a.eval ix = vi at h2
  obtain ⟨ii, dd, z, g1, g2, _, _, _, _, g3⟩ := ty_parts (hT t ti ht)
  rw [hd] at g3
  obtain ⟨e, i', d', rfl, g4, rfl, _, _⟩ := td_arr g3.symm
  have hlt : (m : Int) < (n : Int) := by omega
  cases h2
  have hex : ∀ b o', a.eval x = .pointer (some ⟨b, o', none⟩) → (execOp a.eval o).run P w = .ok (.value (.pointer (some ⟨b, o' + m * i'.size, none⟩))) w := fun b o' e => by
    have hadd : (⟨b, o', none⟩ : Addr).add (m * i'.size) = ⟨b, o' + m * i'.size, none⟩ := Addr.add_lit _ _ _
    simp [execOp, ho, e, hvi, Instr.indexAt, asIntOf, run_underlying g2, run_sizeOf w g4, hadd, Instr.sureAddr]
    omega
  rcases hv with ⟨id, j, he, rfl⟩ | ⟨id, s, i, j, he, rfl⟩ | ⟨c, he, rfl⟩ <;> rw [he] at hcx <;> generalize hvx : a.eval x = vx at hcx
  · cases hcx with
    | ptr _ _ b hh e1 e2 => exact ⟨_, hex b j hvx, .ptr id _ b hh e1 e2⟩
  · cases hcx with
    | eptr _ _ _ _ b hh e1 e2 =>
      refine ⟨_, hex b _ hvx, ?_⟩
      rw [Nat.add_assoc]
      exact .eptr id s i _ b hh e1 e2
  · cases hcx with
    | iptr _ b o' vs e1 e2 e3 e4 =>
      refine ⟨_, hex b _ hvx, .iptr _ b _ (fun j => vs (m * i'.size + j)) e1 (fun j u hu => ?_) (fun j u hu => ?_) (fun j u hu => ?_)⟩ <;> rw [List.getElem?_drop] at hu
      · rw [Nat.add_assoc]; exact e2 _ u hu
      · exact e3 _ u hu
      · exact e4 _ u hu

/-- an element of an array that is a value -/
theorem gives_indexV {P : Program} {tab : Tab} (hT : TabOK P tab) {o : Oper} {env : Nat → AV} {H : Nat → Option ABlk} {x ix : Operand} {t : TypeId} {ti : TI} {n sz : Nat} {g : Bool} {k : IntKind} {m : Nat} {c : List AV} {v : AV}
    (ho : o.op = .index t x ix) (ht : tab t = some ti) (hd : ti.d = .arr n sz g) (hc : ev env x = .agg c) (hi : ev env ix = .int k m) (hm : m < n)
    (hv : (g = true ∧ m * sz + sz ≤ c.length ∧ v = .agg ((c.drop (m * sz)).take sz)) ∨ (g = false ∧ c[m * sz]? = some v)) : Gives P o env H v [] := by
  intro w F β a hx _
  have hcx := hx x (by simp [ho, Op.operands])
  have h2 := hx ix (by simp [ho, Op.operands])
  rw [hc] at hcx
  rw [hi] at h2
  generalize hvx : a.eval x = vx at hcx
  generalize hvi : a.eval ix = vi at h2
  obtain ⟨ii, dd, z, g1, g2, _, _, _, _, g3⟩ := ty_parts (hT t ti ht)
  rw [hd] at g3
  obtain ⟨e, i', d', rfl, g4, rfl, g5, rfl⟩ := td_arr g3.symm
  have hlt : (m : Int) < (n : Int) := by omega
  cases h2
  cases hcx with
  | agg _ cs k1 k2 =>
    rcases hv with ⟨hg, hle, rfl⟩ | ⟨hg, hu⟩
    · refine ⟨.agg (cs.extract (m * i'.size) (m * i'.size + i'.size)), ?_, ?_⟩
      · simp [execOp, ho, hvx, hvi, Instr.index, asIntOf, run_underlying g2, run_sizeOf w g4, run_part w g4 g5, hg]
        omega
      · obtain ⟨e1, e2⟩ := RVs.extract ⟨k1, k2⟩ (m * i'.size) i'.size hle
        exact .agg _ _ e1 e2
    · obtain ⟨u, hu', hr⟩ := RVs.at ⟨k1, k2⟩ hu
      refine ⟨u, ?_, hr⟩
      simp [execOp, ho, hvx, hvi, Instr.index, asIntOf, run_underlying g2, run_sizeOf w g4, run_part w g4 g5, hg, hu']
      omega

/-- a byte of a string -/
theorem gives_byte {P : Program} {tab : Tab} (hT : TabOK P tab) {o : Oper} {env : Nat → AV} {H : Nat → Option ABlk} {x ix : Operand} {t : TypeId} {ti : TI} {s : ByteArray} {k : IntKind} {m : Nat} {b : UInt8}
    (ho : o.op = .index t x ix) (ht : tab t = some ti) (hd : ti.d = .str) (hx0 : ev env x = .str s) (hi : ev env ix = .int k m) (hb : s[m]? = some b) : Gives P o env H (.int .u8 b.toNat) [] := by
  intro w F β a hx _
  have h1 := hx x (by simp [ho, Op.operands])
  have h2 := hx ix (by simp [ho, Op.operands])
  rw [hx0] at h1
  rw [hi] at h2
  generalize hvx : a.eval x = vx at h1
  generalize hvi : a.eval ix = vi at h2
  obtain ⟨ii, dd, z, g1, g2, _, _, _, _, g3⟩ := ty_parts (hT t ti ht)
  rw [hd] at g3
  have hdd : dd = .string := by
    cases dd <;> simp only [tdOf] at g3 <;> first | rfl | ((repeat' split at g3) <;> cases g3)
  subst hdd
  cases h1
  cases h2
  exact ⟨.int .u8 b.toNat, by simp [execOp, ho, hvx, hvi, Instr.index, asIntOf, run_underlying g2, hb], .int _ _⟩

/-- what a pointer leads to -/
def Points (w : World) (F : Nat → Prop) (β : Nat → Option Hdr) (c : List AV) (p : Value) : Prop :=
  ∃ b o, p = .pointer (some ⟨b, o, none⟩) ∧ ∀ (j : Nat) (u : AV), c[j]? = some u → ∃ v, w.cell? ⟨b, o + j, none⟩ = some v ∧ RV w F β u v

theorem load_run {P : Program} {tab : Tab} (hT : TabOK P tab) {t : TypeId} {ti : TI} (ht : tab t = some ti) {w : World} {F : Nat → Prop} {β : Nat → Option Hdr} {c : List AV} {p : Value} (hp : Points w F β c p) {j : Nat} {v : AV}
    (hv : (ti.agg = true ∧ j + ti.size ≤ c.length ∧ v = .agg ((c.drop j).take ti.size)) ∨ (ti.agg = false ∧ c[j]? = some v)) :
    ∀ b o, p = .pointer (some ⟨b, o, none⟩) → ∃ u, (loadVar t ⟨b, o + j, none⟩).run P w = .ok u w ∧ RV w F β v u := by
  intro b o hpe
  obtain ⟨b', o', he, hc⟩ := hp
  rw [hpe] at he
  cases he
  obtain ⟨ii, dd, z, g1, g2, _, g3, g4, _, _⟩ := ty_parts (hT t ti ht)
  rcases hv with ⟨hg, hle, rfl⟩ | ⟨hg, hu⟩
  · have hval : ∀ k, k < ti.size → ∃ v, w.cell? ⟨b, o + j + k, none⟩ = some v ∧ ∀ u, c[j + k]? = some u → RV w F β u v := fun k hk => by
      obtain ⟨v, h1, h2⟩ := hc (j + k) _ (List.getElem?_eq_getElem (show j + k < c.length by omega))
      refine ⟨v, by rw [Nat.add_assoc]; exact h1, fun u hu => ?_⟩
      rw [List.getElem?_eq_getElem (show j + k < c.length by omega)] at hu
      cases hu
      exact h2
    have hch : ∃ f : Nat → Value, ∀ k, k < ti.size → w.cell? ⟨b, o + j + k, none⟩ = some (f k) ∧ ∀ u, c[j + k]? = some u → RV w F β u (f k) :=
      ⟨fun k => if h : k < ti.size then (hval k h).choose else undef, fun k hk => by simp only [hk, dif_pos]; exact (hval k hk).choose_spec⟩
    obtain ⟨f, hf⟩ := hch
    have hrun := run_loadCells (P := P) w ⟨b, o + j, none⟩ ti.size f (fun k hk => by rw [Addr.add_lit]; exact (hf k hk).1)
    refine ⟨.agg ((List.range ti.size).map f).toArray, ?_, .agg _ _ (by simp; omega) fun k u v hu hv => ?_⟩
    · rw [g4] at hrun
      simp [loadVar, run_isAgg w g2, ← g3, hg, run_sizeOf w g1, hrun, g4]
    · rw [List.getElem?_take, List.getElem?_drop] at hu
      split at hu
      · rename_i hk
        simp [hk] at hv
        subst hv
        exact (hf k hk).2 u hu
      · cases hu
  · obtain ⟨u, h1, h2⟩ := hc j v hu
    refine ⟨u, ?_, h2⟩
    simp [loadVar, run_isAgg w g2, ← g3, hg, load, Sem.run, h1]

theorem iptr_points {w : World} {F : Nat → Prop} {β : Nat → Option Hdr} {c : List AV} {p : Value} (h : RV w F β (.iptr c) p) : Points w F β c p := by
  cases h with
  | iptr _ b o vs h1 h2 h3 h4 => exact ⟨b, o, rfl, fun j u hu => ⟨vs j, h2 j u hu, (h4 j u hu).up⟩⟩

theorem box_points {w : World} {F : Nat → Prop} {β : Nat → Option Hdr} {id j : Nat} {c : List AV} {h : Hdr} {p : Value} (hp : RV w F β (.ptr id j) p) (e : β id = some h) (hb : BlkR w F β h (.box c)) : ∃ b, h.blk = some b ∧ p = .pointer (some ⟨b, j, none⟩) ∧ Points w F β c (.pointer (some ⟨b, 0, none⟩)) := by
  obtain ⟨b, arr, ty, h1, h2, h3, h4⟩ := hb
  cases hp with
  | ptr _ _ b' h' e1 e2 =>
    rw [e] at e1
    cases e1
    rw [h1] at e2
    cases e2
    refine ⟨_, h1, rfl, _, 0, rfl, fun j u hu => ?_⟩
    obtain ⟨v, hv, hr⟩ := RVs.at ⟨h3, h4⟩ hu
    exact ⟨v, by simp [World.cell?, h2, hv], hr⟩

theorem row_points {w : World} {F : Nat → Prop} {β : Nat → Option Hdr} {id sz i j : Nat} {xs : List (List AV)} {c : List AV} {h : Hdr} {p : Value} (hp : RV w F β (.eptr id sz i j) p) (e : β id = some h) (hb : BlkR w F β h (.row sz xs)) (hc : xs[i]? = some c) :
    ∃ b, h.blk = some b ∧ p = .pointer (some ⟨b, i * sz + j, none⟩) ∧ Points w F β c (.pointer (some ⟨b, i * sz, none⟩)) := by
  obtain ⟨h1, h2, h3, h4, h5, h6⟩ := hb
  cases hp with
  | eptr _ _ _ _ b h' e1 e2 =>
    rw [e] at e1
    cases e1
    obtain ⟨arr, ty, g1, g2, g3⟩ := h6 b e2
    refine ⟨b, e2, rfl, b, i * sz, rfl, fun j u hu => ?_⟩
    obtain ⟨v, hv, hr⟩ := g3 i c j u hc hu
    exact ⟨v, by simp [World.cell?, g1, hv], hr⟩

theorem gives_load {P : Program} {tab : Tab} (hT : TabOK P tab) {o : Oper} {env : Nat → AV} {H : Nat → Option ABlk} {x : Operand} {t : TypeId} {ti : TI} {v : AV} {c : List AV} {j : Nat} {ids : List Nat} (ho : o.op = .load t x) (ht : tab t = some ti)
    (hp : (ev env x = .iptr c ∧ j = 0 ∧ ids = []) ∨ (∃ id, ev env x = .ptr id j ∧ H id = some (.box c) ∧ ids = [id]) ∨ (∃ id sz i xs, ev env x = .eptr id sz i j ∧ H id = some (.row sz xs) ∧ xs[i]? = some c ∧ ids = [id]))
    (hv : (ti.agg = true ∧ j + ti.size ≤ c.length ∧ v = .agg ((c.drop j).take ti.size)) ∨ (ti.agg = false ∧ c[j]? = some v)) : Gives P o env H v ids := by
  intro w F β a hx hK
  have hcx := hx x (by simp [ho, Op.operands])
  rcases hp with ⟨he, rfl, rfl⟩ | ⟨id, he, hH, rfl⟩ | ⟨id, sz, i, xs, he, hH, hxi, rfl⟩ <;> rw [he] at hcx
  · have hp := iptr_points hcx
    have hp' := hp
    obtain ⟨b, o', hpe, _⟩ := hp'
    obtain ⟨u, h1, h2⟩ := load_run hT ht hp hv b o' hpe
    rw [Nat.add_zero] at h1
    exact ⟨u, by simp [execOp, ho, hpe, Instr.loadAt, Instr.sureAddr, h1], h2⟩
  · obtain ⟨h, e1, hb⟩ := hK id (by simp) _ hH
    obtain ⟨b, _, hpe, hp⟩ := box_points hcx e1 hb
    obtain ⟨u, h1, h2⟩ := load_run hT ht hp hv b 0 rfl
    rw [Nat.zero_add] at h1
    exact ⟨u, by simp [execOp, ho, hpe, Instr.loadAt, Instr.sureAddr, h1], h2⟩
  · obtain ⟨h, e1, hb⟩ := hK id (by simp) _ hH
    obtain ⟨b, _, hpe, hp⟩ := row_points hcx e1 hb hxi
    obtain ⟨u, h1, h2⟩ := load_run hT ht hp hv b _ rfl
    exact ⟨u, by simp [execOp, ho, hpe, Instr.loadAt, Instr.sureAddr, h1], h2⟩
end Go.Proofs.Ytkefkegknacpjaa.Ax
