/- Append, and where the row lies behind it; rows that lie apart. -/
import Derived.Test.YtkefkegknacpjaaOwn
namespace Go.Proofs.Ytkefkegknacpjaa
open Go.RowKit

/-- where the row of an owned slice lies behind an append: where it lay, or in the newest block -/
theorem append_where {P : Program} {w : World} {base : Nat} {t ty e : TypeId} {i : TypeInfo} {z : Value} {size bytes : Nat} (ht : P.underlying t = some (.slice e)) (hi : P.info? e = some i) (hz : i.zero = some z)
    (hsize : i.size = size) (hby : i.bytes = bytes) {v : Value} {n : Nat} {xs : List Value} (hown : w.ownsRow base e size v n xs) (a : Addr) (m c : Nat) (news : List Value) (hl : news.length = m * size)
    (hnews : ∀ j u, news[j]? = some u → w.cell? (a.add j) = some u) (h1 : ∀ u ∈ news, u.oneCell' = true) (h63 : n + m ≤ maxLen) (hbytes : (n + m) * bytes ≤ 140737488355328) {v' : Value} {w' : World}
    (hr : (Builtin.append_ #[t, t] ty #[v, .slice (some a) m c]).run P w = .ok v' w') : v'.ownBlock = v.ownBlock ∨ v'.ownBlock = some w.heap.size := by
  subst hsize
  subst hby
  simp only [maxLen] at h63
  rcases hown.2 with ⟨rfl, rfl⟩ | ⟨g, cap, cur, rfl, hbg, hg, hnc, hcm, hcs, htake⟩
  · by_cases hm : m = 0
    · subst hm
      have : news = [] := List.eq_nil_of_length_eq_zero (by simpa using hl)
      subst this
      have hr2 : (Builtin.append_ #[t, t] ty #[.slice none 0 0, .slice (some a) 0 c]).run P w = .ok (.slice none 0 0) w := by
        simp [Builtin.append_, run_underlying ht, sizeOf, typeInfo, hi, Builtin.lenOf, Builtin.firstCells, loadCells, loadCellsFrom]
      rw [hr2] at hr
      cases hr
      exact .inl rfl
    · simp only [Nat.zero_add] at hbytes
      rw [run_append_nil (P := P) w t ty e i z ht hi hz a m c news hl hnews (by omega) (by omega) (by omega)] at hr
      cases hr
      exact .inr rfl
  · by_cases hroom : n + m ≤ cap
    · rw [run_append_room (P := P) w t ty e i ht hi g n cap cur hg a m c news hl hnews h1 hroom (by rw [hl, hcs, ← Nat.add_mul]; exact Nat.mul_le_mul_right _ hroom)] at hr
      cases hr
      exact .inl rfl
    · rw [run_append_grow (P := P) w t ty e i z ht hi hz ⟨g, 0, none⟩ n cap xs hown.1 (hown.cells (g := g) rfl) a m c news hl hnews (by omega) (by omega) (growslice_fits (by omega) hbytes)] at hr
      cases hr
      exact .inr rfl

theorem wpList_append_ownF {P : Program} {w : World} {ops : Array Oper} {rest : List Oper} {o : Oper} {a : Act} {Q : Exit → Act → World → Prop} (hgd : o.guard = none) (s x : Operand) (t : TypeId)
    (ho : o.op = .call { callee := .builtin .append, args := #[s, x], argTypes := #[t, t] })
    (base : Nat) (e : TypeId) (i : TypeInfo) (z : Value) (size bytes : Nat) (ht : P.underlying t = some (.slice e)) (hi : P.info? e = some i) (hz : i.zero = some z)
    (hsize : i.size = size) (hby : i.bytes = bytes) (hzs : z.cells.size = size) (hsz : 0 < size)
    (v : Value) (n : Nat) (xs : List Value) (hs : a.eval s = v) (hown : w.ownsRow base e size v n xs)
    (ad : Addr) (m c : Nat) (news : List Value) (hx : a.eval x = .slice (some ad) m c) (hl : news.length = m * size) (hnews : ∀ j u, news[j]? = some u → w.cell? (ad.add j) = some u) (h1 : ∀ u ∈ news, u.oneCell' = true)
    (h63 : n + m ≤ maxLen) (hbytes : (n + m) * bytes ≤ 140737488355328) (hbase : base ≤ w.heap.size)
    (h : ∀ v' w', w'.ownsRow base e size v' (n + m) (xs ++ news) → w.grownBy w' v.ownBlock → (v'.ownBlock = v.ownBlock ∨ v'.ownBlock = some w.heap.size) → wpList P ops Q rest (a.put o.dst v') w') : wpList P ops Q (o :: rest) a w := by
  refine wpList_plain hgd fun K hK => ?_
  obtain ⟨v', w', hr, h2, h3, h4⟩ := run_append_own (P := P) w base t o.type e i z size bytes ht hi hz hsize hby hzs hsz v n xs hown ad m c news hl hnews h1 h63 hbytes hbase
  have hw := append_where ht hi hz hsize hby hown ad m c news hl hnews h1 h63 hbytes hr
  unfold Oper.wp execOp
  simp only [ho, resolve, invoke, builtin, Sem.run_bind, Sem.run_pure, Result.andThen_ok, List.map_toArray, List.map_cons, List.map_nil, hs, hx, hr]
  exact hK _ _ (h v' w' h2 h3 hw)

/-- append(out, x) of one number; where the row lies is told -/
theorem wpList_append1F {ops : Array Oper} {rest : List Oper} {o : Oper} {a : Act} {w : World} {Q : Exit → Act → World → Prop} (hgd : o.guard = none) (s x : Operand)
    (ho : o.op = .call { callee := .builtin .append, args := #[s, x], argTypes := #[22, 22] })
    (base : Nat) (v : Value) (l : List Int) (y : Int) (w0 : World) (N : Nat) (hN : N = w0.heap.size) (hw : w = w0.alloc (.cells #[.int .i64 y] 3)) (hs : a.eval s = v) (hx : a.eval x = .slice (some ⟨N, 0, none⟩) 1 1)
    (hown : OwnI base w0 v l) (hy : (Lit.int .i64 y).wf = true) (hsz : (l.length + 1) * 8 ≤ 140737488355328) (hbase : base ≤ w0.heap.size)
    (h : ∀ v' w', OwnI base w' v' (l ++ [y]) → w0.grownBy w' v.ownBlock → (v'.ownBlock = v.ownBlock ∨ v'.ownBlock = some (N + 1)) → wpList Try.prog ops Q rest (a.put o.dst v') w') : wpList Try.prog ops Q (o :: rest) a w := by
  subst hw
  subst hN
  obtain ⟨i0, hi, hz0, hz1, hz2⟩ := info_parts infoInt
  refine wpList_append_ownF hgd s x 22 ho base 3 i0 (.int .i64 0) 1 8 Try.underlying22 hi hz0 hz1 hz2 rfl (by decide) v l.length _ hs (hown.1.alloc _) ⟨w0.heap.size, 0, none⟩ 1 1 [.int .i64 y] hx rfl (fun j u hj => ?_) (by simp [Value.oneCell']) (by unfold maxLen; omega) (by omega) (by simp; omega) ?_
  · match j, hj with
    | 0, hj => simp at hj; subst hj; simp [Addr.add]
    | j + 1, hj => simp at hj
  intro v' w' hown' hg hb
  refine h v' w' ⟨by simpa using hown', fun n hn => ?_⟩ (grownBy_trans (World.grownBy_alloc _ _ _) hg) (by simpa using hb)
  rcases List.mem_append.1 hn with hn | hn
  · exact hown.2 n hn
  · obtain rfl : n = y := by simpa using hn
    exact hy

/-- two values whose rows lie apart -/
def Dis (v u : Value) : Prop := ∀ g, v.ownBlock = some g → u.ownBlock ≠ some g

theorem Dis.symm {v u : Value} (h : Dis v u) : Dis u v := fun g hu hv => h g hv hu
theorem Dis.nil (u : Value) : Dis (.slice none 0 0) u := fun g h => by cases h
theorem Dis.ne {v u : Value} (h : Dis v u) : u.ownBlock = none ∨ u.ownBlock ≠ v.ownBlock := by
  rcases hu : u.ownBlock with _ | g
  · exact .inl rfl
  · exact .inr fun e => h g e.symm hu
/-- behind an append rows that lay apart lie apart -/
theorem Dis.app {v v' u : Value} {n base : Nat} {w : World} {l : List Int} (h : Dis v u) (hb : v'.ownBlock = v.ownBlock ∨ v'.ownBlock = some n) (hu : OwnI base w u l) (hn : w.heap.size ≤ n) : Dis v' u := by
  intro g hg hg2
  rcases hb with hb | hb
  · exact h g (hb ▸ hg) hg2
  · rw [hb] at hg
    cases hg
    have := (hu.1.lt _ hg2).2
    omega
/-- a block that was there is not the row's, behind an append, if it was not before -/
theorem own_ne {v v' : Value} {n b : Nat} (h : v.ownBlock ≠ some b) (hb : v'.ownBlock = v.ownBlock ∨ v'.ownBlock = some n) (hn : b < n) : v'.ownBlock ≠ some b := by
  rcases hb with hb | hb <;> rw [hb]
  · exact h
  · simp; omega
theorem own_new {base : Nat} {w : World} {v : Value} {l : List Int} (h : OwnI base w v l) {b : Nat} (hb : w.heap.size ≤ b) : v.ownBlock ≠ some b := by
  intro e
  have := (h.1.lt _ e).2
  omega
end Go.Proofs.Ytkefkegknacpjaa
