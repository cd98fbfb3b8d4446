/- The program's readers, as one contract. -/
import Derived.Test.YtaedejjbchpbfaaKeysG
import Derived.Test.YtaedejjbchpbfaaPTxtx1
import Derived.Test.YtaedejjbchpbfaaSl
namespace Go.Proofs.Ytaedejjbchpbfaa.Keys
open Go.RowKit Go.Proofs.YtaedejjbchpbfaaW.PrintWords Go.Proofs.YtaedejjbchpbfaaW.PrintLast Go.Proofs.YtaedejjbchpbfaaW.PrintMore Go.Proofs.Ytaedejjbchpbfaa.Str Go.Proofs.Ytaedejjbchpbfaa.PRef Go.Proofs.Ytaedejjbchpbfaa.Stands Go.Proofs.Ytaedejjbchpbfaa.Sl
set_option linter.unusedVariables false
set_option linter.unusedSimpArgs false
/-- What the program's reader of texts answers. -/
def textA (s : ByteArray) : Option (List UInt8 × List UInt8) → Int × Int × ByteArray × Bool × ByteArray
  | some (t, r) => (2, 0, ⟨t.toArray⟩, true, ⟨r.toArray⟩)
  | none => (0, 0, ⟨#[]⟩, false, s)
theorem text_l0 (s : ByteArray) (hs : s.size ≤ 140737488351232) : ∀ (d i k : Nat) (acc : List UInt8), s.size - i ≤ d → acc.length ≤ i → i ≤ s.size → 2 * d + 2 ≤ k →
    PTxt.keys_reader_text.l0 k (ints acc) (i : Int) s = some (textA s (unesc acc (s.toList.drop i))) := by
  intro d
  induction d with
  | zero =>
    intro i k acc hd ha hi hk
    obtain ⟨k, rfl⟩ : ∃ m, k = m + 1 := ⟨k - 1, by omega⟩
    simp only [PTxt.keys_reader_text.l0]
    rw [if_neg (by omega), drop_end s i (by omega)]
    simp [unesc, textA]
  | succ d ih =>
    intro i k acc hd ha hi hk
    obtain ⟨k, rfl⟩ : ∃ m, k = m + 2 := ⟨k - 2, by omega⟩
    have hw : wrap64 ((i : Int) + 1) = ((i + 1 : Nat) : Int) := by unfold wrap64; omega
    have hw3 : wrap64 (((i + 1 : Nat) : Int) + 1) = ((i + 2 : Nat) : Int) := by unfold wrap64; omega
    simp only [PTxt.keys_reader_text.l0]
    rw [hw]
    by_cases h0 : i < s.size
    · rw [if_pos (show (i : Int) < (s.size : Int) by omega), if_pos (show 0 ≤ (i : Int) by omega)]
      have hb0 := bt_nat s i h0
      by_cases hz : s[i] = 0
      · rw [if_pos ((bt_zero s i h0).2 hz)]
        by_cases hlt : i + 1 < s.size
        · rw [if_pos (show ((i + 1 : Nat) : Int) < (s.size : Int) by omega), if_pos (show 0 ≤ ((i + 1 : Nat) : Int) by omega), drop_drop_at s i hlt]
          simp only [unesc, if_pos hz]
          by_cases h255 : s[i + 1] = 255
          · have hb : (bt s ((i + 1 : Nat) : Int) == 255) = true := by rw [beq_iff_eq]; exact (bt_is s (i + 1) hlt 255 255 rfl).2 h255
            rw [hb, if_pos h255]
            simp only [PTxt.keys_reader_text.j1, if_true]
            rw [if_pos (by rw [ints_length]; omega), hw3, show ints acc ++ [0] = ints (acc ++ [0]) by rw [ints_app]; rfl]
            exact ih (i + 2) k _ (by omega) (by simp; omega) (by omega) (by omega)
          · have hb : (bt s ((i + 1 : Nat) : Int) == 255) = false := by
              rw [beq_eq_false_iff_ne]
              exact fun h => h255 ((bt_is s (i + 1) hlt 255 255 rfl).1 h)
            rw [hb, if_neg h255]
            simp only [PTxt.keys_reader_text.j1]
            rw [if_neg (by decide), if_pos (show ((i + 1 : Nat) : Int) < (s.size : Int) by omega), if_pos (show 0 ≤ ((i + 1 : Nat) : Int) by omega), hw3]
            by_cases h1 : s[i + 1] = 1
            · rw [if_pos ((bt_is s (i + 1) hlt 1 1 rfl).2 h1), if_pos h1, if_pos (show 0 ≤ ((i + 2 : Nat) : Int) by omega), if_pos (show ((i + 2 : Nat) : Int) ≤ (s.size : Int) by omega), str_ints, Int.toNat_natCast]
              simp only [textA]
              congr 5
              exact ext _ _ ((extract_toList s (i + 2) (by omega)).trans (mk_toList _).symm)
            · rw [if_neg (fun h => h1 ((bt_is s (i + 1) hlt 1 1 rfl).1 h)), if_neg h1]
              rfl
        · rw [if_neg (show ¬ ((i + 1 : Nat) : Int) < (s.size : Int) by omega)]
          simp only [PTxt.keys_reader_text.j1]
          rw [if_neg (by decide), if_neg (show ¬ ((i + 1 : Nat) : Int) < (s.size : Int) by omega)]
          rcases drop_last s i hlt with e | ⟨b, e⟩ <;> rw [e] <;> simp [unesc, textA]
      · rw [if_neg (fun h => hz ((bt_zero s i h0).1 h)), if_pos (by rw [ints_length]; omega), drop_at s i h0, unesc_ne _ _ hz, hb0, show ints acc ++ [(s[i].toNat : Int)] = ints (acc ++ [s[i]]) by rw [ints_app]; rfl]
        exact ih (i + 1) (k + 1) _ (by omega) (by simp; omega) (by omega) (by omega)
    · rw [if_neg (show ¬ (i : Int) < (s.size : Int) by omega), drop_end s i (by omega)]
      simp [unesc, textA]
theorem text_eq (s : ByteArray) (hs : s.size ≤ 140737488351232) (k : Nat) (hk : 2 * s.size + 2 ≤ k) : PTxt.keys_reader_text.f k s = some (readA s (decV (3 :: s.toList))) := by
  have h := text_l0 s hs s.size 0 k [] (by omega) (by simp) (by omega) hk
  unfold PTxt.keys_reader_text.f
  rw [show ints [] = ([] : List Int) from rfl, show ((0 : Nat) : Int) = 0 from rfl, List.drop_zero] at h
  rw [h]
  show _ = some (readA s ((unesc [] s.toList).map _))
  cases unesc [] s.toList with
  | none => rfl
  | some p => rfl
def readV (r : Int × Int × ByteArray × Bool × ByteArray) : Value := .tuple #[.agg #[.int .i64 r.1, .int .i64 r.2.1, .string r.2.2.1], .bool r.2.2.2.1]
theorem meth {f : FuncId} {g : Nat} {s : ByteArray} {r : Int × Int × ByteArray × Bool × ByteArray} {t : TypeId}
    (h : ∀ (w0 w : World), (w.heap[g]? = some (.cells #[.string s] t (0, 0)) ∧ w0.heap.size ≤ g) → Below w0.heap.size w0 w →
      Calls Try.prog f #[.pointer (some ⟨g, 0, none⟩)] w fun e w' => e = .returned (readV r) ∧ (w'.heap[g]? = some (.cells #[.string r.2.2.2.2] t (0, 0)) ∧ w0.heap.size ≤ g) ∧ Below w0.heap.size w0 w' ∧ KeepBut w w' g none) :
    FunV Try.prog f #[.pointer (some ⟨g, 0, none⟩)] (fun _ => True) [HP.obj g t [.string s]] (readV r) [HP.obj g t [.string r.2.2.2.2]] := by
  intro w S hS _
  have H := St.start hS
  have hb : w.heap[g]? = some (.cells #[.string s] t (0, 0)) := H.blk
  have hg : S g := by
    obtain ⟨S1, S2, a, _, _, s1, _⟩ := hS
    exact s1 g a.2
  refine (h { w with heap := #[] } w ⟨hb, Nat.zero_le _⟩ ⟨rfl, rfl, rfl, Nat.zero_le _, fun k hk => absurd hk (Nat.not_lt_zero _)⟩).mono ?_
  rintro e w' ⟨rfl, hI, hB, hK⟩
  refine ⟨rfl, ⟨hB.os, hB.tape, hB.output, hK.1, fun i hi hn => hK.2 i hi (fun e => hn (by rw [e]; exact hg)) (by simp)⟩, S, Gives.emp_intro _ _ _ ⟨hI.1, hg⟩, fun k hk => .inl hk⟩
/-- The reader of a tag. -/
def rdr (b : UInt8) : FuncId := if b = 1 then 23 else if b = 2 then 24 else 25
theorem reader_fun (b : UInt8) (hb : b = 1 ∨ b = 2 ∨ b = 3) (g : Nat) (s : ByteArray) (hs : s.size ≤ 140737488351232) :
    FunV Try.prog (rdr b) #[.pointer (some ⟨g, 0, none⟩)] (fun _ => True) [HP.obj g 53 [.string s]] (readV (readA s (decV (b :: s.toList)))) [HP.obj g 53 [.string (readA s (decV (b :: s.toList))).2.2.2.2]] := by
  rcases hb with rfl | rfl | rfl
  · refine meth (fun w0 w hI hB => ?_)
    have e : keys_reader_null.f s = some (readA s (decV (1 :: s.toList))) := by
      show _ = some (0, 0, (⟨#[]⟩ : ByteArray), true, (⟨s.toList.toArray⟩ : ByteArray))
      rw [← mk_ext s _ rfl]; rfl
    exact keys_reader_null.calls g s _ _ _ _ _ w0 w hI hB e
  · refine meth (fun w0 w hI hB => ?_)
    exact keys_reader_number.calls 20 g s _ _ _ _ _ w0 w hI hB (number_eq s 20 (by omega))
  · refine meth (fun w0 w hI hB => ?_)
    exact PTxt.keys_reader_text.calls _ g s _ _ _ _ _ w0 w hI hB (text_eq s hs _ (Nat.le_refl _))
end Go.Proofs.Ytaedejjbchpbfaa.Keys
