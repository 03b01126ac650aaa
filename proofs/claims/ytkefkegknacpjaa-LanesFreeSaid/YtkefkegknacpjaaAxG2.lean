/- Bytes become a string. Nothing of the dump is used here. -/
import Derived.Test.YtkefkegknacpjaaAxG
import Derived.Laws.BytesString
namespace Go.Proofs.Ytkefkegknacpjaa.Ax
open Go.RowKit
set_option linter.unusedVariables false
set_option linter.unusedSimpArgs false

/-- the string of some bytes -/
def bytesF (ns : List Int) : ByteArray := ns.foldl (fun r n => r.push (UInt8.ofNat n.toNat)) ByteArray.empty

theorem gives_bytesStr {P : Program} {tab : Tab} (hT : TabOK P tab) {o : Oper} {env : Nat → AV} {H : Nat → Option ABlk} {x : Operand} {s t e : TypeId} {ti tj te : TI} {sz eb : Nat} {ez : List AV} {ns : List Int} {ys : List (List AV)} {ids : List Nat} (ho : o.op = .convert s t x) (hs : tab s = some tj) (ht : tab t = some ti)
    (hdt : ti.d = .str) (hd : tj.d = .slc e sz eb ez) (hte : tab e = some te) (hde : te.d = .int .u8) (hc : Cont H (ev env x) 1 ys ids) (hys : ys = ns.map fun n => [.int .u8 n]) : Gives P o env H (.str (bytesF ns)) ids := by
  intro w F β a hx hK
  have hcx := hx x (by simp [ho, Op.operands])
  obtain ⟨ad, cap, news, hv, h1, h2, h3⟩ := cont_reads hc hK hcx
  obtain ⟨ii, dd, z, g1, g2, _, _, _, _, g3⟩ := ty_parts (hT t ti ht)
  obtain ⟨ij, dj, zj, j1, j2, _, _, _, _, j3⟩ := ty_parts (hT s tj hs)
  obtain ⟨ie, de, ze, e1, e2, _, _, _, _, e3⟩ := ty_parts (hT e te hte)
  rw [hdt] at g3
  rw [hd] at j3
  rw [hde] at e3
  have hdd : dd = .string := by
    cases dd <;> simp only [tdOf] at g3 <;> first | (cases g3; done) | rfl | ((repeat' split at g3) <;> cases g3)
  subst hdd
  have hdde : de = .int .u8 := by
    cases de <;> simp only [tdOf] at e3 <;> first | (cases e3; rfl) | ((repeat' split at e3) <;> cases e3)
  subst hdde
  obtain ⟨i', v, rfl, _⟩ := td_slc j3.symm
  refine ⟨.string (bytesF ns), ?_, .str _⟩
  have hrun : (Conv.bytesToString (a.eval x)).run P w = .ok (.string (bytesF ns)) w := by
    rw [hv]
    cases ad with
    | none =>
      have := h1 rfl
      rw [this] at hys
      have hn : ns = [] := List.map_eq_nil_iff.1 hys.symm
      subst hn
      simp [Conv.bytesToString, bytesF]
    | some ad =>
      obtain ⟨f1, f2, f3⟩ := h2
      have hnews : news = ns.map (Value.int .u8) := by
        refine List.ext_getElem? (fun j => ?_)
        rw [List.getElem?_map]
        by_cases hj : j < ns.length
        · rw [List.getElem?_eq_getElem hj]
          obtain ⟨v, hv1, hv2⟩ := f3 j [.int .u8 ns[j]] 0 (.int .u8 ns[j]) (by rw [hys, List.getElem?_map, List.getElem?_eq_getElem hj]; rfl) rfl
          cases hv2
          simpa using hv1
        · rw [List.getElem?_eq_none (by rw [f1, hys]; simp; omega), List.getElem?_eq_none (by omega)]
          rfl
      refine run_bytesToString w ad ys.length cap ns ?_
      have := run_loadCells_list (P := P) (w := w) ad news (fun j v hj => h3 ad rfl j v hj)
      rw [f1, Nat.mul_one, hnews] at this
      exact this
  simp only [execOp, ho, Sem.run_bind]
  rw [hv] at hrun ⊢
  rw [run_convert_bytes_string w s t e ad ys.length cap j2 e2 g2, hrun]
  rfl
end Go.Proofs.Ytkefkegknacpjaa.Ax
