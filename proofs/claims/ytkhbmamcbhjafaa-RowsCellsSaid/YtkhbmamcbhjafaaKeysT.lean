/- The program's readers, as one contract. -/
import Derived.Test.YtkhbmamcbhjafaaKeysG
import Derived.Test.YtkhbmamcbhjafaaKeysTx
import Derived.Test.YtkhbmamcbhjafaaSlAll
namespace Go.Proofs.Ytkhbmamcbhjafaa.Keys
open Go.RowKit Go.Proofs.YtkhbmamcbhjafaaW.PrintWords Go.Proofs.YtkhbmamcbhjafaaW.PrintLast Go.Proofs.YtkhbmamcbhjafaaW.PrintMore Go.Proofs.Ytkhbmamcbhjafaa.Str Go.Proofs.Ytkhbmamcbhjafaa.PRef Go.Proofs.Ytkhbmamcbhjafaa.Stands Go.Proofs.Ytkhbmamcbhjafaa.Sl
set_option linter.unusedVariables false
set_option linter.unusedSimpArgs false
theorem meth {f : FuncId} {g : Nat} {s : ByteArray} {r : Int × Int × ByteArray × Bool × ByteArray} {t : TypeId}
    (h : ∀ (w0 w : World), (w.heap[g]? = some (.cells #[.string s] t (0, 0)) ∧ w0.heap.size ≤ g) → Below w0.heap.size w0 w →
      Calls Try.prog f #[.pointer (some ⟨g, 0, none⟩)] w fun e w' => e = .returned (readV r) ∧ (w'.heap[g]? = some (.cells #[.string r.2.2.2.2] t (0, 0)) ∧ w0.heap.size ≤ g) ∧ Below w0.heap.size w0 w' ∧ KeepBut w w' g none) :
    FunV Try.prog f #[.pointer (some ⟨g, 0, none⟩)] (fun _ => True) [HP.obj g t [.string s]] (readV r) [HP.obj g t [.string r.2.2.2.2]] := by
  intro w S hS _
  have H := St.start hS
  have hb : w.heap[g]? = some (.cells #[.string s] t (0, 0)) := H.blk
  have hg : S g := by
    obtain ⟨S1, S2, a, _, _, s1, _⟩ := hS
    exact s1 g a.2
  refine (h { w with heap := #[] } w ⟨hb, Nat.zero_le _⟩ ⟨rfl, rfl, rfl, Nat.zero_le _, fun k hk => absurd hk (Nat.not_lt_zero _)⟩).mono ?_
  rintro e w' ⟨rfl, hI, hB, hK⟩
  refine ⟨rfl, ⟨hB.os, hB.tape, hB.output, hK.1, fun i hi hn => hK.2 i hi (fun e => hn (by rw [e]; exact hg)) (by simp)⟩, S, Gives.emp_intro _ _ _ ⟨hI.1, hg⟩, fun k hk => .inl hk⟩
/-- The reader of a tag. -/
def rdr (b : UInt8) : FuncId := if b = 1 then 43 else if b = 2 then 44 else 45
theorem reader_fun (b : UInt8) (hb : b = 1 ∨ b = 2 ∨ b = 3) (g : Nat) (s : ByteArray) (hs : s.size ≤ 140737488351232) :
    FunV Try.prog (rdr b) #[.pointer (some ⟨g, 0, none⟩)] (fun _ => True) [HP.obj g 97 [.string s]] (readV (readA s (decV (b :: s.toList)))) [HP.obj g 97 [.string (readA s (decV (b :: s.toList))).2.2.2.2]] := by
  rcases hb with rfl | rfl | rfl
  · refine meth (fun w0 w hI hB => ?_)
    have e : keys_reader_null.f s = some (readA s (decV (1 :: s.toList))) := by
      show _ = some (0, 0, (⟨#[]⟩ : ByteArray), true, (⟨s.toList.toArray⟩ : ByteArray))
      rw [← mk_ext s _ rfl]; rfl
    exact keys_reader_null.calls g s _ _ _ _ _ w0 w hI hB e
  · refine meth (fun w0 w hI hB => ?_)
    exact keys_reader_number.calls 20 g s _ _ _ _ _ w0 w hI hB (number_eq s 20 (by omega))
  · have e : readA s (decV (3 :: s.toList)) = textA s (unesc [] s.toList) := by
      show readA s ((unesc [] s.toList).map _) = _
      cases unesc [] s.toList with
      | none => rfl
      | some p => rfl
    rw [e]
    exact text_fun g s hs
end Go.Proofs.Ytkhbmamcbhjafaa.Keys
