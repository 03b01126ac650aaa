/- From contracts to the calls that a law's frame asks for. Nothing of the dump is used here. -/
import Derived.Test.YtkajegjghfbgaaaExB
namespace Go.Proofs.Ytkajegjghfbgaaa.Ex
open Go.RowKit Go.Proofs.Ytkajegjghfbgaaa.Ax
set_option linter.unusedVariables false
set_option linter.unusedSimpArgs false

theorem rv_ints {w : World} {v : Value} {l : List Int} (h : IntsV w v l) : RV w (fun b => b < w.heap.size) noB (.lst 1 (l.map iA)) v := by
  obtain ⟨a, cap, rfl, h1, h2, h3, h4, h5⟩ := h
  have key := RV.lst (w := w) (F := fun b => b < w.heap.size) (β := noB) 1 (l.map iA) a cap (fun k _ => .int .i64 (l[k]?.getD 0)) (by rw [List.length_map]; exact h1) h2 h4 (fun ad e h0 => ?_) (fun k c hk => ?_) (fun ad k c j u e hk hj => ?_) (fun k c j u hk hj => ?_)
  · rw [List.length_map] at key; exact key
  · rw [List.length_map] at h0
    obtain ⟨b, off, e2, hb, _⟩ := h5 h0
    rw [e] at e2
    cases e2
    exact ⟨rfl, hb⟩
  · rw [List.getElem?_map] at hk
    cases hx : l[k]? with
    | none => rw [hx] at hk; cases hk
    | some x => rw [hx] at hk; cases hk; exact ⟨rfl, fun u hu => by simp [iA] at hu; subst hu; rfl⟩
  · rw [List.getElem?_map] at hk
    cases hx : l[k]? with
    | none => rw [hx] at hk; cases hk
    | some x =>
      rw [hx] at hk
      cases hk
      have hkl := (List.getElem?_eq_some_iff.1 hx).1
      obtain ⟨b, off, e2, hb, hc⟩ := h5 (by omega)
      rw [e] at e2
      cases e2
      match j, hj with
      | 0, hj =>
        have := hc k hkl
        rw [hx] at this
        simpa using this
  · rw [List.getElem?_map] at hk
    cases hx : l[k]? with
    | none => rw [hx] at hk; cases hk
    | some x =>
      rw [hx] at hk
      cases hk
      match j, hj with
      | 0, hj => cases hj; simp only [Option.getD_some]; exact .int _ _

theorem law_call {P : Program} {f : FuncId} {args : List AV} (h : AC P f args [] (.bool true) []) {w : World} {vals : List Value} (hl : vals.length = args.length) (hv : allE (fun p => RV w (fun b => b < w.heap.size) noB p.1 p.2) (args.zip vals)) (hgl : GloR w (fun b => b < w.heap.size)) :
    Calls P f vals.toArray w fun e w' => e = .returned (.bool true) ∧ Below w.heap.size w w' := by
  refine Calls.mono (h.calls (w := w) (vals := vals.toArray) (by simpa using hl) (fun t u v hu hv' => allE_mem hv (u, v) (List.mem_of_getElem? (i := t) ?_)) hgl) fun e w' ⟨v, F, h1, h2, h3⟩ => ?_
  · rw [List.getElem?_zip_eq_some]
    exact ⟨hu, by simpa using hv'⟩
  · cases h2
    exact ⟨h1, h3⟩

theorem w64_id {z : Int} (h1 : -9223372036854775808 ≤ z) (h2 : z ≤ 9223372036854775807) : w64 z = z := wrap64 h1 h2
end Go.Proofs.Ytkajegjghfbgaaa.Ex
