/- Values that came in, by the types of the program; printed by a program. -/
import Derived.Test.YtkefkegknacpjaaOpn
import Derived.Test.YtkefkegknacpjaaExT
namespace Go.Proofs.Ytkefkegknacpjaa.Ex
open Go.RowKit Go.Proofs.Ytkefkegknacpjaa.Ax
set_option linter.unusedVariables false
set_option linter.unusedSimpArgs false

def k_iA : List CK := [.int .i64]
theorem dec_iA (c : List AV) (h : KVs k_iA c) : ∃ x : Int, iA x = c ∧ True := by
  obtain ⟨v, us, rfl, _, h⟩ := kv_int h
  have := kv_nil h
  subst this
  exact ⟨v, rfl, trivial⟩

def k_Stored : List CK := [.int .i64, .int .i64]
def Q_Stored (x : Stored) : Prop := True
theorem dec_Stored (c : List AV) (h0 : KVs k_Stored c) : ∃ x : Stored, encStored x = c ∧ Q_Stored x := by
  obtain ⟨v0, us0, rfl, _, h1⟩ := kv_int h0
  obtain ⟨v1, us1, rfl, _, h2⟩ := kv_int h1
  have := kv_nil h2
  subst this
  exact ⟨(⟨v0, v1⟩ : Stored), rfl, trivial⟩

def k_Src : List CK := [.sl k_iA, .int .i64]
def Q_Src (x : Src) : Prop := True
theorem dec_Src (c : List AV) (h0 : KVs k_Src c) : ∃ x : Src, encSrc x = c ∧ Q_Src x := by
  obtain ⟨xs0, us0, rfl, hx0, h1⟩ := kv_sl h0
  obtain ⟨v0, rfl, _⟩ := rows_ex dec_iA xs0 hx0
  obtain ⟨v1, us1, rfl, _, h2⟩ := kv_int h1
  have := kv_nil h2
  subst this
  exact ⟨(⟨v0, v1⟩ : Src), rfl, trivial⟩

-- Lanes: not covered
end Go.Proofs.Ytkefkegknacpjaa.Ex
