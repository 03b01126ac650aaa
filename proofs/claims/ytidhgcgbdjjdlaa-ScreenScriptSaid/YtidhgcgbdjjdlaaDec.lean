/- Values that came in, by the types of the program; printed by a program. -/
import Derived.Test.YtidhgcgbdjjdlaaOpn
import Derived.Test.YtidhgcgbdjjdlaaExT
namespace Go.Proofs.Ytidhgcgbdjjdlaa.Ex
open Go.RowKit Go.Proofs.Ytidhgcgbdjjdlaa.Ax
set_option linter.unusedVariables false
set_option linter.unusedSimpArgs false

def k_iA : List CK := [.int .i64]
theorem dec_iA (c : List AV) (h : KVs k_iA c) : ∃ x : Int, iA x = c ∧ True := by
  obtain ⟨v, us, rfl, _, h⟩ := kv_int h
  have := kv_nil h
  subst this
  exact ⟨v, rfl, trivial⟩

def k_A4_Int : List CK := [.int .i64, .int .i64, .int .i64, .int .i64]
def Q_A4_Int (x : A4_Int) : Prop := True
theorem dec_A4_Int (c : List AV) (h0 : KVs k_A4_Int c) : ∃ x : A4_Int, encA4_Int x = c ∧ Q_A4_Int x := by
  obtain ⟨v0, us0, rfl, _, h1⟩ := kv_int h0
  obtain ⟨v1, us1, rfl, _, h2⟩ := kv_int h1
  obtain ⟨v2, us2, rfl, _, h3⟩ := kv_int h2
  obtain ⟨v3, us3, rfl, _, h4⟩ := kv_int h3
  have := kv_nil h4
  subst this
  exact ⟨(⟨v0, v1, v2, v3⟩ : A4_Int), rfl, trivial⟩

def k_Src : List CK := [.sl k_iA, .int .i64]
def Q_Src (x : Src) : Prop := True
theorem dec_Src (c : List AV) (h0 : KVs k_Src c) : ∃ x : Src, encSrc x = c ∧ Q_Src x := by
  obtain ⟨xs0, us0, rfl, hx0, h1⟩ := kv_sl h0
  obtain ⟨v0, rfl, _⟩ := rows_ex dec_iA xs0 hx0
  obtain ⟨v1, us1, rfl, _, h2⟩ := kv_int h1
  have := kv_nil h2
  subst this
  exact ⟨(⟨v0, v1⟩ : Src), rfl, trivial⟩

def k_Check : List CK := [.int .i64, .int .i64, .int .i64, .int .i64, .int .i64]
def Q_Check (x : Check) : Prop := True
theorem dec_Check (c : List AV) (h0 : KVs k_Check c) : ∃ x : Check, encCheck x = c ∧ Q_Check x := by
  obtain ⟨v0, us0, rfl, _, h1⟩ := kv_int h0
  obtain ⟨v1, us1, rfl, _, h2⟩ := kv_int h1
  obtain ⟨v2, us2, rfl, _, h3⟩ := kv_int h2
  obtain ⟨v3, us3, rfl, _, h4⟩ := kv_int h3
  obtain ⟨v4, us4, rfl, _, h5⟩ := kv_int h4
  have := kv_nil h5
  subst this
  exact ⟨(⟨v0, v1, v2, v3, v4⟩ : Check), rfl, trivial⟩

def k_Screening : List CK := [.int .i64, .int .i64, .int .i64, .int .i64, .int .i64, .sl k_Check]
def Q_Screening (x : Screening) : Prop := True
theorem dec_Screening (c : List AV) (h0 : KVs k_Screening c) : ∃ x : Screening, encScreening x = c ∧ Q_Screening x := by
  obtain ⟨v0, us0, rfl, _, h1⟩ := kv_int h0
  obtain ⟨v1, us1, rfl, _, h2⟩ := kv_int h1
  obtain ⟨v2, us2, rfl, _, h3⟩ := kv_int h2
  obtain ⟨v3, us3, rfl, _, h4⟩ := kv_int h3
  obtain ⟨v4, us4, rfl, _, h5⟩ := kv_int h4
  obtain ⟨xs5, us5, rfl, hx5, h6⟩ := kv_sl h5
  obtain ⟨v5, rfl, _⟩ := rows_ex dec_Check xs5 hx5
  have := kv_nil h6
  subst this
  exact ⟨(⟨(⟨v0, v1, v2, v3⟩ : A4_Int), v4, v5⟩ : Screening), rfl, trivial⟩

def k_Keeper : List CK := [.int .i64, .int .i64, .int .i64, .int .i64, .int .i64, .sl k_Check]
def Q_Keeper (x : Keeper) : Prop := True
theorem dec_Keeper (c : List AV) (h0 : KVs k_Keeper c) : ∃ x : Keeper, encKeeper x = c ∧ Q_Keeper x := by
  obtain ⟨v0, us0, rfl, _, h1⟩ := kv_int h0
  obtain ⟨v1, us1, rfl, _, h2⟩ := kv_int h1
  obtain ⟨v2, us2, rfl, _, h3⟩ := kv_int h2
  obtain ⟨v3, us3, rfl, _, h4⟩ := kv_int h3
  obtain ⟨v4, us4, rfl, _, h5⟩ := kv_int h4
  obtain ⟨xs5, us5, rfl, hx5, h6⟩ := kv_sl h5
  obtain ⟨v5, rfl, _⟩ := rows_ex dec_Check xs5 hx5
  have := kv_nil h6
  subst this
  exact ⟨(⟨(⟨(⟨v0, v1, v2, v3⟩ : A4_Int), v4, v5⟩ : Screening)⟩ : Keeper), rfl, trivial⟩

def k_Alarm : List CK := [.int .i64, .int .i64, .int .i64, .int .i64]
def Q_Alarm (x : Alarm) : Prop := True
theorem dec_Alarm (c : List AV) (h0 : KVs k_Alarm c) : ∃ x : Alarm, encAlarm x = c ∧ Q_Alarm x := by
  obtain ⟨v0, us0, rfl, _, h1⟩ := kv_int h0
  obtain ⟨v1, us1, rfl, _, h2⟩ := kv_int h1
  obtain ⟨v2, us2, rfl, _, h3⟩ := kv_int h2
  obtain ⟨v3, us3, rfl, _, h4⟩ := kv_int h3
  have := kv_nil h4
  subst this
  exact ⟨(⟨v0, v1, v2, v3⟩ : Alarm), rfl, trivial⟩

def k_A2_Int : List CK := [.int .i64, .int .i64]
def Q_A2_Int (x : A2_Int) : Prop := True
theorem dec_A2_Int (c : List AV) (h0 : KVs k_A2_Int c) : ∃ x : A2_Int, encA2_Int x = c ∧ Q_A2_Int x := by
  obtain ⟨v0, us0, rfl, _, h1⟩ := kv_int h0
  obtain ⟨v1, us1, rfl, _, h2⟩ := kv_int h1
  have := kv_nil h2
  subst this
  exact ⟨(⟨v0, v1⟩ : A2_Int), rfl, trivial⟩

end Go.Proofs.Ytidhgcgbdjjdlaa.Ex
