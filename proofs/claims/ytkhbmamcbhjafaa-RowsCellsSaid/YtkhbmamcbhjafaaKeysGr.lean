/- The document's Decode: what the printed functions compute. -/
import Derived.Test.YtkhbmamcbhjafaaKeysG
import Derived.Test.YtkhbmamcbhjafaaPRefx4
import Derived.Test.YtkhbmamcbhjafaaPRefx4
namespace Go.Proofs.Ytkhbmamcbhjafaa.Keys
open Go.RowKit Go.Proofs.YtkhbmamcbhjafaaW.PrintWords Go.Proofs.YtkhbmamcbhjafaaW.PrintLast Go.Proofs.YtkhbmamcbhjafaaW.PrintMore Go.Proofs.Ytkhbmamcbhjafaa.Str Go.Proofs.Ytkhbmamcbhjafaa.PRef Go.Proofs.Ytkhbmamcbhjafaa.Stands
set_option linter.unusedVariables false
set_option linter.unusedSimpArgs false
/-- What the document's first answers of a text. -/
def firstT (s : ByteArray) : Option (List UInt8 × List UInt8) → Int × Int × ByteArray × Int
  | some (t, r) => (2, 0, ⟨t.toArray⟩, (s.size : Int) - r.length)
  | none => (0, 0, ⟨#[]⟩, 0)
theorem bt_zero (s : ByteArray) (i : Nat) (h : i < s.size) : (bt s (i : Int) = 0) ↔ s[i] = 0 := by
  rw [bt_nat s i h]
  constructor
  · intro e; exact UInt8.toNat_inj.1 (by show s[i].toNat = 0; omega)
  · intro e; rw [e]; rfl
theorem bt_is (s : ByteArray) (i : Nat) (h : i < s.size) (c : UInt8) (n : Int) (hn : (c.toNat : Int) = n) : (bt s (i : Int) = n) ↔ s[i] = c := by
  rw [bt_nat s i h, ← hn]
  constructor
  · intro e; exact UInt8.toNat_inj.1 (by omega)
  · intro e; rw [e]
theorem first_l1 (s : ByteArray) (hs : s.size ≤ 140737488351232) : ∀ (d i k : Nat) (acc : List UInt8), s.size - i ≤ d → 1 ≤ i → acc.length ≤ i → i ≤ s.size → 2 * d + 2 ≤ k →
    lintelref02_first.l1 k s (ints acc) (i : Int) = some (firstT s (unesc acc (s.toList.drop i))) := by
  intro d
  induction d with
  | zero =>
    intro i k acc hd h1 ha hi hk
    obtain ⟨k, rfl⟩ : ∃ m, k = m + 1 := ⟨k - 1, by omega⟩
    have hw : wrap64 ((i : Int) + 1) = ((i + 1 : Nat) : Int) := by unfold wrap64; omega
    simp only [lintelref02_first.l1]
    rw [hw, if_neg (by omega)]
    rcases drop_last s i (by omega) with e | ⟨b, e⟩ <;> rw [e] <;> simp [unesc, firstT]
  | succ d ih =>
    intro i k acc hd h1 ha hi hk
    obtain ⟨k, rfl⟩ : ∃ m, k = m + 2 := ⟨k - 2, by omega⟩
    have hw : wrap64 ((i : Int) + 1) = ((i + 1 : Nat) : Int) := by unfold wrap64; omega
    simp only [lintelref02_first.l1]
    rw [hw]
    by_cases hlt : i + 1 < s.size
    · have hw2 : wrap64 ((i : Int) + 2) = ((i + 2 : Nat) : Int) := by unfold wrap64; omega
      have hw3 : wrap64 (((i + 1 : Nat) : Int) + 1) = ((i + 2 : Nat) : Int) := by unfold wrap64; omega
      rw [if_pos (by omega), if_pos (by omega), if_pos (by omega), drop_drop_at s i hlt]
      have hj : ∀ c : Bool, c = false → ¬ (s[i] = 0 ∧ s[i + 1] = 1) → lintelref02_first.j3 (k + 1) s (ints acc) (i : Int) c = some (firstT s (unesc acc (s[i] :: s[i + 1] :: s.toList.drop (i + 2)))) := by
        intro c hc hn
        subst hc
        simp only [lintelref02_first.j3]
        have hb0 := bt_nat s i (by omega)
        rw [if_neg (by decide), if_pos (by omega), if_pos (by omega), if_pos (by rw [ints_length]; omega)]
        simp only [Option.bind_some]
        have hacc : ints acc ++ [bt s (i : Int)] = ints (acc ++ [s[i]]) := by rw [hb0, ints_app]; rfl
        rw [hacc, hw, hw3]
        by_cases h0 : s[i] = 0
        · rw [if_pos ((bt_zero s i (by omega)).2 h0), if_pos (by omega), if_pos (by omega)]
          simp only [unesc, if_pos h0]
          by_cases h255 : s[i + 1] = 255
          · rw [if_pos ((bt_is s (i + 1) hlt 255 255 rfl).2 h255), if_pos h255, h0]
            exact ih (i + 2) k _ (by omega) (by omega) (by simp; omega) (by omega) (by omega)
          · rw [if_neg (fun h => h255 ((bt_is s (i + 1) hlt 255 255 rfl).1 h)), if_neg h255, if_neg (fun h => hn ⟨h0, h⟩)]
            rfl
        · rw [if_neg (fun h => h0 ((bt_zero s i (by omega)).1 h)), unesc_ne _ _ h0, ← drop_at s (i + 1) hlt]
          exact ih (i + 1) k _ (by omega) (by omega) (by simp; omega) (by omega) (by omega)
      by_cases h0 : s[i] = 0
      · rw [if_pos ((bt_zero s i (by omega)).2 h0), if_pos (by omega)]
        by_cases hc1 : s[i + 1] = 1
        · have hb : (bt s ((i + 1 : Nat) : Int) == 1) = true := by rw [beq_iff_eq]; exact (bt_is s (i + 1) hlt 1 1 rfl).2 hc1
          rw [hb]
          simp only [lintelref02_first.j3, if_true]
          rw [hw2, str_ints, h0, hc1]
          simp only [unesc, if_true]
          rw [if_neg (by decide)]
          simp only [firstT, Option.some.injEq, Prod.mk.injEq, true_and]
          rw [List.length_drop, size_toList]
          omega
        · refine hj _ ?_ (fun h => hc1 h.2)
          rw [beq_eq_false_iff_ne]
          exact fun h => hc1 ((bt_is s (i + 1) hlt 1 1 rfl).1 h)
      · rw [if_neg (fun h => h0 ((bt_zero s i (by omega)).1 h))]
        exact hj _ rfl (fun h => h0 h.1)
    · rw [if_neg (by omega)]
      rcases drop_last s i (by omega) with e | ⟨b, e⟩ <;> rw [e] <;> simp [unesc, firstT]
theorem first_l0 (s : ByteArray) (h9 : 9 ≤ s.size) : ∀ (d i k : Nat), i + d = 8 → d < k →
    lintelref02_first.l0 k s (num ((s.toList.drop 1).take i) : Int) ((i + 1 : Nat) : Int) = some (1, (num ((s.toList.drop 1).take 8) : Int) - 9223372036854775808, (⟨#[]⟩ : ByteArray), 9) := by
  have hlt : ∀ i, i ≤ 8 → num ((s.toList.drop 1).take i) < 256 ^ i := by
    intro i hi
    have h1 := num_lt ((s.toList.drop 1).take i)
    rwa [List.length_take, List.length_drop, size_toList, Nat.min_eq_left (by omega)] at h1
  intro d
  induction d with
  | zero =>
    intro i k hi hk
    obtain ⟨k, rfl⟩ : ∃ m, k = m + 1 := ⟨k - 1, by omega⟩
    obtain rfl : i = 8 := by omega
    have h1 := hlt 8 (by omega)
    have hp : (256 : Nat) ^ 8 = 18446744073709551616 := by decide
    simp only [lintelref02_first.l0]
    rw [if_neg (by omega), IntKind.wrap_u64]
    congr 3
    unfold wrap64
    omega
  | succ d ih =>
    intro i k hi hk
    obtain ⟨k, rfl⟩ : ∃ m, k = m + 1 := ⟨k - 1, by omega⟩
    have h1 := hlt i (by omega)
    have h2 : 256 ^ i ≤ 256 ^ 7 := Nat.pow_le_pow_right (by decide) (by omega)
    have hp : (256 : Nat) ^ 7 = 72057594037927936 := by decide
    have hw : wrap64 (((i + 1 : Nat) : Int) + 1) = ((i + 1 + 1 : Nat) : Int) := by unfold wrap64; omega
    have ht : (s.toList.drop 1).take (i + 1) = (s.toList.drop 1).take i ++ [s[i + 1]'(by omega)] := by
      have hd := drop_at s (i + 1) (by omega)
      have hi2 : i < (s.toList.drop 1).length := by rw [List.length_drop, size_toList]; omega
      rw [List.take_succ_eq_append_getElem hi2]
      congr 2
      have e1 : (s.toList.drop 1).drop i = s.toList.drop (i + 1) := by rw [List.drop_drop, Nat.add_comm]
      rw [List.drop_eq_getElem_cons hi2, hd] at e1
      exact (List.cons.inj e1).1
    have hb := bt_nat s (i + 1) (by omega)
    have h256 : (s[i + 1]'(by omega)).toNat < 256 := (s[i + 1]'(by omega)).toNat_lt
    have e : IntKind.u64.wrap ((IntKind.u64.wrap ((num ((s.toList.drop 1).take i) : Int) * 256)) + (IntKind.u64.wrap (bt s ((i + 1 : Nat) : Int)))) = ((num ((s.toList.drop 1).take (i + 1)) : Nat) : Int) := by
      rw [ht, num_snoc, hb, IntKind.wrap_u64, IntKind.wrap_u64, IntKind.wrap_u64]
      omega
    simp only [lintelref02_first.l0]
    rw [if_pos (by omega), if_pos (by omega), if_pos (by omega), e, hw]
    exact ih (i + 1) k (by omega) (by omega)
/-- What the document's first answers. -/
def firstA (s : ByteArray) : Option (V × List UInt8) → Int × Int × ByteArray × Int
  | some (v, r) => (v.f0, v.f1, v.f2, (s.size : Int) - r.length)
  | none => (0, 0, ⟨#[]⟩, 0)
theorem first_eq (s : ByteArray) (h0 : 0 < s.size) (hs : s.size ≤ 140737488351232) (k : Nat) (hk : 2 * s.size + 20 ≤ k) : lintelref02_first.f k s = some (firstA s (decV s.toList)) := by
  obtain ⟨k, rfl⟩ : ∃ m, k = m + 1 := ⟨k - 1, by omega⟩
  have hd : s.toList = s[0] :: s.toList.drop 1 := drop_at s 0 h0
  have hsz : (s.toList.drop 1).length = s.size - 1 := by rw [List.length_drop, size_toList]
  have b1 : ∀ (c : UInt8) (n : Int), (c.toNat : Int) = n → ((bt s 0 = n) ↔ s[0] = c) := fun c n hn => bt_is s 0 h0 c n hn
  have hj : s[0] ≠ 1 → (s[0] = 2 → s.size < 9) → lintelref02_first.j0 (k + 1) s false = some (firstA s (decV s.toList)) := by
    intro h1 h2
    simp only [lintelref02_first.j0]
    rw [if_neg (by decide), if_pos (by omega), hd]
    simp only [decV, if_neg h1]
    by_cases h3 : s[0] = 3
    · rw [if_pos ((b1 3 3 rfl).2 h3), if_neg (by rw [h3]; decide), if_pos h3]
      have := first_l1 s hs s.size 1 k [] (by omega) (by omega) (by simp) (by omega) (by omega)
      rw [show ints [] = ([] : List Int) from rfl, show ((1 : Nat) : Int) = 1 from rfl] at this
      rw [this]
      cases unesc [] (s.toList.drop 1) with
      | none => rfl
      | some p => rfl
    · rw [if_neg (fun h => h3 ((b1 3 3 rfl).1 h)), if_neg h3]
      by_cases h4 : s[0] = 2
      · rw [if_pos h4, if_neg (by have := h2 h4; omega)]; rfl
      · rw [if_neg h4]; rfl
  unfold lintelref02_first.f
  rw [if_pos (by omega)]
  by_cases h1 : s[0] = 1
  · rw [if_pos ((b1 1 1 rfl).2 h1), hd]
    simp only [decV, if_pos h1, firstA, Option.some.injEq, Prod.mk.injEq, true_and]
    omega
  · rw [if_neg (fun h => h1 ((b1 1 1 rfl).1 h))]
    by_cases h2 : s[0] = 2
    · rw [if_pos ((b1 2 2 rfl).2 h2)]
      by_cases h9 : 9 ≤ s.size
      · rw [decide_eq_true (by omega)]
        simp only [lintelref02_first.j0, if_true]
        have := first_l0 s h9 8 0 k (by omega) (by omega)
        rw [show ((num ((s.toList.drop 1).take 0) : Nat) : Int) = 0 from rfl, show ((0 + 1 : Nat) : Int) = 1 from rfl] at this
        rw [this, hd]
        simp only [decV, if_neg h1, if_pos h2]
        rw [if_pos (by omega)]
        simp only [firstA, List.drop_succ_cons, List.drop_zero, Option.some.injEq, Prod.mk.injEq, true_and]
        rw [List.length_drop]
        omega
      · rw [decide_eq_false (by omega)]
        exact hj h1 (fun _ => by omega)
    · rw [if_neg (fun h => h2 ((b1 2 2 rfl).1 h))]
      exact hj h1 (fun h => absurd h h2)
theorem ref_decode_l0 : ∀ (j k : Nat) (acc : List V) (s : ByteArray), acc.length + j = 8 → s.size ≤ 140737488351232 → 2 * s.size + 22 + j ≤ k → lintelref02_Decode.l0 k s acc = some (ans (decG (j + 1) acc s.toList)) := by
  intro j
  induction j with
  | zero =>
    intro k acc s ha hs hk
    obtain ⟨k, rfl⟩ : ∃ m, k = m + 1 := ⟨k - 1, by omega⟩
    simp only [lintelref02_Decode.l0, decG]
    by_cases h0 : s.toList = []
    · have : s.size = 0 := by rw [← size_toList, h0]; rfl
      rw [if_neg (by omega), if_pos h0]; rfl
    · have : 0 < s.size := by rw [← size_toList]; exact List.length_pos_iff.2 h0
      rw [if_pos (by omega), if_neg h0]
      have hfe := first_eq s this hs k (by omega)
      cases hd : decV s.toList with
      | none =>
        rw [hd] at hfe
        have hfe' : lintelref02_first.f k s = some (0, 0, ⟨#[]⟩, 0) := hfe
        rw [hfe']; rfl
      | some p =>
        obtain ⟨v, r⟩ := p
        have hsuf := decV_suffix _ _ _ hd
        rw [size_toList] at hsuf
        rw [hd] at hfe
        have hfe' : lintelref02_first.f k s = some (v.f0, v.f1, v.f2, (s.size : Int) - r.length) := hfe
        rw [hfe']
        simp only [Option.bind_some]
        rw [if_neg (show ¬ ((s.size : Int) - (r.length : Int) = 0) by omega), right_eq, if_neg (show ¬ (rightV v = true ∧ acc.length ≠ 8) by omega)]
        simp only [Option.bind_some]
        by_cases hr : rightV v = true
        · rw [if_pos (show rightV ⟨v.f0, v.f1, v.f2⟩ = true from hr), if_pos (show (acc.length : Int) = 8 by omega)]; rfl
        · rw [if_neg (show ¬ rightV ⟨v.f0, v.f1, v.f2⟩ = true from hr)]; rfl
  | succ j ih =>
    intro k acc s ha hs hk
    obtain ⟨k, rfl⟩ : ∃ m, k = m + 1 := ⟨k - 1, by omega⟩
    simp only [lintelref02_Decode.l0]
    rw [decG]
    by_cases h0 : s.toList = []
    · have : s.size = 0 := by rw [← size_toList, h0]; rfl
      rw [if_neg (by omega), if_pos h0]; rfl
    · have : 0 < s.size := by rw [← size_toList]; exact List.length_pos_iff.2 h0
      rw [if_pos (by omega), if_neg h0]
      have hfe := first_eq s this hs k (by omega)
      cases hd : decV s.toList with
      | none =>
        rw [hd] at hfe
        have hfe' : lintelref02_first.f k s = some (0, 0, ⟨#[]⟩, 0) := hfe
        rw [hfe']; rfl
      | some p =>
        obtain ⟨v, r⟩ := p
        have hsuf := decV_suffix _ _ _ hd
        rw [size_toList] at hsuf
        rw [hd] at hfe
        have hfe' : lintelref02_first.f k s = some (v.f0, v.f1, v.f2, (s.size : Int) - r.length) := hfe
        rw [hfe']
        simp only [Option.bind_some]
        rw [if_neg (show ¬ ((s.size : Int) - (r.length : Int) = 0) by omega), right_eq]
        simp only [Option.bind_some]
        by_cases hr : rightV v = true
        · rw [if_pos (show rightV ⟨v.f0, v.f1, v.f2⟩ = true from hr), if_neg (show ¬ ((acc.length : Int) = 8) by omega), if_pos (show acc.length < 4398046511104 by omega), if_pos (show 0 ≤ (s.size : Int) - (r.length : Int) by omega), if_pos (show (s.size : Int) - (r.length : Int) ≤ (s.size : Int) by omega), if_pos (show rightV v = true ∧ acc.length ≠ 8 from ⟨hr, by omega⟩)]
          have e : ((s.size : Int) - (r.length : Int)).toNat = s.size - r.length := by omega
          have hx : (s.extract (s.size - r.length) s.size).toList = r := by rw [extract_toList s _ (by omega)]; exact hsuf.1.symm
          have hsz : (s.extract (s.size - r.length) s.size).size = r.length := by rw [← size_toList, hx]
          rw [e, ih k _ _ (by simp; omega) (by omega) (by omega), hx]
        · rw [if_neg (show ¬ rightV ⟨v.f0, v.f1, v.f2⟩ = true from hr), if_neg (show ¬ (rightV v = true ∧ acc.length ≠ 8) from fun h => hr h.1)]; rfl
theorem ref_decode_eq (s : ByteArray) (hs : s.size ≤ 140737488351232) (k : Nat) (hk : 2 * s.size + 40 ≤ k) : lintelref02_Decode.f k s = some (decode s) := ref_decode_l0 8 k [] s rfl hs (by omega)
end Go.Proofs.Ytkhbmamcbhjafaa.Keys
