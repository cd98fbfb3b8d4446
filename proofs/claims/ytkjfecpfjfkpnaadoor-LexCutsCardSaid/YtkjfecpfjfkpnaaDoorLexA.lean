/- Layer 17: LexCuts, of what is handed over. -/
import Derived.Test.YtkjfecpfjfkpnaaDoorLexM
import Derived.Test.YtkjfecpfjfkpnaaDoorLexO
namespace Go.Proofs.YtkjfecpfjfkpnaaDoor.Lex
open Go.RowKit Go.Proofs.YtkjfecpfjfkpnaaDoor.Sl
theorem cuts_law (s : ByteArray) (_hs : s.size ≤ 140737488351232) (n : Int) (_hn : (Lit.int .i64 n).wf = true) : FunV Tryd.prog 5 #[.string s, .int .i64 n] Vars [] (.bool true) [] := cuts_fun s n
end Go.Proofs.YtkjfecpfjfkpnaaDoor.Lex
