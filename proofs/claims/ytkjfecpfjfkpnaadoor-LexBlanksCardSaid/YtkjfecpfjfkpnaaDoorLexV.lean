/- Layer 17: the library's variables; ParseInt. -/
import Derived.Test.YtkjfecpfjfkpnaaDoorLexX
namespace Go.Proofs.YtkjfecpfjfkpnaaDoor.Lex
open Go.Lib (parseIntB)
open Go.RowKit Go.Proofs.YtkjfecpfjfkpnaaDoorW.PrintWords Go.Proofs.YtkjfecpfjfkpnaaDoorW.PrintLast Go.Proofs.YtkjfecpfjfkpnaaDoorW.PrintMore Go.Proofs.YtkjfecpfjfkpnaaDoor.Sl Go.Proofs.YtkjfecpfjfkpnaaDoor.Str
set_option linter.unusedVariables false
/-- The library's variables, as far as they are read. -/
structure Vars (w : World) : Prop where
  syn : ∃ tp p, w.var? Tryd.prog "strconv.ErrSyntax" = some #[.iface tp p]
  rng : ∃ tp p, w.var? Tryd.prog "strconv.ErrRange" = some #[.iface tp p]
theorem parse_ok (s : ByteArray) (hs : s.size ≤ 281474976710656) (v : Int) (h : parseIntB 64 s.toList = .ok v) (w : World) :
    Calls Tryd.prog 22 #[.string s, .int .i64 10, .int .i64 64] w fun e w' => e = .returned (.tuple #[.int .i64 v, .nilIface]) ∧ Below w.heap.size w w' := by
  refine (Tryd.strconv_ParseInt_10_at64_ok s (by omega) v (by rw [← toList_eq]; exact h) w).mono ?_
  rintro e w' ⟨rfl, h1⟩
  refine ⟨rfl, ?_⟩
  rcases h1 with rfl | ⟨t, rfl⟩
  · exact Below.refl _ _
  · exact Lib.bytesWorld_below w 5 t
theorem num_cases (e : Lib.NumEnd Int) : (∃ v, e = .ok v) ∨ e = parseIntB 64 [] ∨ e = .range := by
  cases e with
  | ok v => exact .inl ⟨v, rfl⟩
  | range => exact .inr (.inr rfl)
  | _ => exact .inr (.inl rfl)
theorem parse_bad (s : ByteArray) (hs : s.size ≤ 281474976710656) (h : ∀ v, parseIntB 64 s.toList ≠ .ok v) (w : World) (hv : Vars w) :
    Calls Tryd.prog 22 #[.string s, .int .i64 10, .int .i64 64] w fun e w' => (∃ r t q, e = .returned (.tuple #[.int .i64 r, .iface t (.pointer (some q))])) ∧ Below w.heap.size w w' := by
  rw [toList_eq] at h
  obtain ⟨tp, p, hv1⟩ := hv.syn
  obtain ⟨tq, q, hv2⟩ := hv.rng
  rcases num_cases (parseIntB 64 s.data.toList) with ⟨v, hp⟩ | hp | hp
  · exact absurd hp (h v)
  · refine (Tryd.strconv_ParseInt_10_at64_syntax_var s hs hp tp p w hv1).mono ?_
    rintro e w' ⟨N, rfl, _, _, hb⟩
    exact ⟨⟨_, _, _, rfl⟩, hb⟩
  · refine (Tryd.strconv_ParseInt_10_at64_range_var s hs hp tq q w hv2).mono ?_
    rintro e w' ⟨N, rfl, _, _, hb⟩
    exact ⟨⟨_, _, _, rfl⟩, hb⟩
end Go.Proofs.YtkjfecpfjfkpnaaDoor.Lex
