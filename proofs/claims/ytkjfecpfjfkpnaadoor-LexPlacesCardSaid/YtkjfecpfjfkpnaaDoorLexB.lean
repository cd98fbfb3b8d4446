/- Layer 17: LexPlaces, of what is handed over. -/
import Derived.Test.YtkjfecpfjfkpnaaDoorLexN
import Derived.Test.YtkjfecpfjfkpnaaDoorLexO
namespace Go.Proofs.YtkjfecpfjfkpnaaDoor.Lex
open Go.RowKit Go.Proofs.YtkjfecpfjfkpnaaDoor.Sl
theorem places_law (s : ByteArray) (_hs : s.size ≤ 140737488351232) : FunV Tryd.prog 3 #[.string s] Vars [] (.bool true) [] := by
  have hl := size_toList s
  rcases words_cases s.toList with ⟨p, e, hw, he, hp⟩ | ⟨ws, hw, hx, h1024⟩
  · exact places_err s p e hw he (by omega)
  · have hP := lex_placed _ 0 s.toList ws (Nat.lt_succ_self _) hx
    have hlen := lex_len _ _ _ _ hx
    obtain ⟨v, vs, hv, -⟩ := lex_ne _ _ _ _ hx
    exact places_ok s ws hw (by omega) (by rw [hv]; simp) (by omega) (placed_at _ ws hP)
end Go.Proofs.YtkjfecpfjfkpnaaDoor.Lex
