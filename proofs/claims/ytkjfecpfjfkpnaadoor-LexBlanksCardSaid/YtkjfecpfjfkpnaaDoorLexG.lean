/- Layer 17: LexBlanks, of what is handed over. -/
import Derived.Test.YtkjfecpfjfkpnaaDoorLexF
import Derived.Test.YtkjfecpfjfkpnaaDoorLexO
namespace Go.Proofs.YtkjfecpfjfkpnaaDoor.Lex
open Go.RowKit Go.Proofs.YtkjfecpfjfkpnaaDoor.Sl
theorem blanks_law (s : ByteArray) (_hs : s.size ≤ 140737488351232) (n : Int) (_hn : (Lit.int .i64 n).wf = true) : FunV Tryd.prog 4 #[.string s, .int .i64 n] Vars [] (.bool true) [] := by
  have hl := size_toList s
  rcases words_cases s.toList with ⟨p, e, hw, he, hp⟩ | ⟨ws, hw, hx, h1024⟩
  · exact blanks_err s n p e hw he
  · by_cases hn : n < 0
    · exact blanks_neg s n ws hw hn
    · by_cases hb : n > 3
      · exact blanks_big s n ws hw (by omega) hb
      · obtain ⟨k, rfl⟩ : ∃ k : Nat, n = (k : Int) := ⟨n.toNat, by omega⟩
        have hlen := lex_len _ _ _ _ hx
        obtain ⟨v, vs, hv, -⟩ := lex_ne _ _ _ _ hx
        have htl := lex_tlen _ _ _ _ hx
        refine blanks_ok s k (by omega) ws (by rw [hv]; simp) (by omega) hw (fun x hxm => ?_) _ rfl (fun hr => ?_)
        · have := htl x hxm
          exact ⟨by omega, this.2⟩
        · have hpre : ∀ b ∈ ([9, 32, 10, 32] : List UInt8).take (k + 1), isBl b = true := fun b hb => by
            have := List.mem_of_mem_take hb
            simp at this
            rcases this with rfl | rfl | rfl | rfl <;> rfl
          obtain ⟨m, hm, hmm⟩ := lex_rend _ hpre _ _ _ _ hx [] 0 (by simp)
          refine ⟨m, ?_, hmm⟩
          rw [List.nil_append] at hm
          unfold wordsP
          rw [if_neg (by omega), hm]
end Go.Proofs.YtkjfecpfjfkpnaaDoor.Lex
