/- Decode: what the document's and the program's compute. Plain Lean, over the printed functions. -/
import Derived.Test.YtkhbmamcbhjafaaKeysAll
namespace Go.Proofs.Ytkhbmamcbhjafaa.Keys
open Go.RowKit Go.Proofs.YtkhbmamcbhjafaaW.PrintWords Go.Proofs.YtkhbmamcbhjafaaW.PrintLast Go.Proofs.YtkhbmamcbhjafaaW.PrintMore Go.Proofs.Ytkhbmamcbhjafaa.Str Go.Proofs.Ytkhbmamcbhjafaa.PRef Go.Proofs.Ytkhbmamcbhjafaa.Stands
set_option linter.unusedVariables false
set_option linter.unusedSimpArgs false
/-- A text's bytes read: what is read, and what is left. -/
def unesc : List UInt8 → List UInt8 → Option (List UInt8 × List UInt8)
  | _, [] => none
  | _, [_] => none
  | acc, b :: c :: l => if b = 0 then (if c = 255 then unesc (acc ++ [0]) l else if c = 1 then some (acc, l) else none) else unesc (acc ++ [b]) (c :: l)
theorem unesc_ne (acc : List UInt8) (b : UInt8) (hb : b ≠ 0) : ∀ l, unesc acc (b :: l) = unesc (acc ++ [b]) l
  | [] => by simp [unesc]
  | c :: l => by simp only [unesc, if_neg hb]
def num (l : List UInt8) : Nat := l.foldl (fun u b => u * 256 + b.toNat) 0
/-- A key's first value, and what is left. -/
def decV : List UInt8 → Option (V × List UInt8)
  | [] => none
  | b :: l => if b = 1 then some (⟨0, 0, ⟨#[]⟩⟩, l) else if b = 2 then (if 8 ≤ l.length then some (⟨1, (num (l.take 8) : Int) - 9223372036854775808, ⟨#[]⟩⟩, l.drop 8) else none)
    else if b = 3 then (unesc [] l).map (fun p => (⟨2, 0, ⟨p.1.toArray⟩⟩, p.2)) else none
def decG : Nat → List V → List UInt8 → Option (List V)
  | 0, _, _ => none
  | k + 1, acc, l => if l = [] then some acc else match decV l with
    | none => none
    | some (v, r) => if rightV v = true ∧ acc.length ≠ 8 then decG k (acc ++ [v]) r else none
def ans : Option (List V) → List V × Int
  | some l => (l, 0)
  | none => ([], 20)
def decode (s : ByteArray) : List V × Int := ans (decG 9 [] s.toList)
/-! Of keys that were made. -/
theorem unesc_esc (r : List UInt8) : ∀ t acc, unesc acc (esc t ++ r) = some (acc ++ t, r)
  | [], acc => by simp [esc, unesc]
  | b :: t, acc => by
    simp only [esc]
    by_cases hb : b = 0
    · subst hb
      rw [if_pos rfl]
      simp only [List.cons_append, unesc, if_true, unesc_esc r t]
      simp
    · rw [if_neg hb, List.cons_append, unesc_ne _ _ hb, unesc_esc r t]
      simp
theorem foldl_lin : ∀ (l : List UInt8) (a : Nat), l.foldl (fun u b => u * 256 + b.toNat) a = a * 256 ^ l.length + num l
  | [], a => by simp [num]
  | b :: l, a => by
    have h1 := foldl_lin l (a * 256 + b.toNat)
    have h2 := foldl_lin l (0 * 256 + b.toNat)
    have h3 : num (b :: l) = l.foldl (fun u b => u * 256 + b.toNat) (0 * 256 + b.toNat) := rfl
    have h4 : a * (256 ^ l.length * 256) = a * 256 * 256 ^ l.length := by rw [Nat.mul_comm (256 ^ l.length), ← Nat.mul_assoc]
    rw [List.foldl_cons, h1, h3, h2, List.length_cons, Nat.pow_succ, h4, Nat.add_mul, Nat.zero_mul, Nat.zero_add]
    omega
theorem num_lt : ∀ l : List UInt8, num l < 256 ^ l.length
  | [] => by simp [num]
  | b :: l => by
    have h1 := foldl_lin l (0 * 256 + b.toNat)
    have h3 : num (b :: l) = l.foldl (fun u b => u * 256 + b.toNat) (0 * 256 + b.toNat) := rfl
    have h4 := num_lt l
    have h5 : b.toNat < 256 := b.toNat_lt
    rw [h3, h1, List.length_cons, Nat.pow_succ]
    have : (0 * 256 + b.toNat) * 256 ^ l.length ≤ 255 * 256 ^ l.length := Nat.mul_le_mul_right _ (by omega)
    omega
theorem num_cons (b : UInt8) (l : List UInt8) : num (b :: l) = b.toNat * 256 ^ l.length + num l := by
  have h1 := foldl_lin l (0 * 256 + b.toNat)
  have h3 : num (b :: l) = l.foldl (fun u b => u * 256 + b.toNat) (0 * 256 + b.toNat) := rfl
  rw [h3, h1]
  simp
theorem num_snoc (l : List UInt8) (b : UInt8) : num (l ++ [b]) = num l * 256 + b.toNat := by simp [num]
theorem be_num : ∀ l : List UInt8, be l.length (num l) = l
  | [] => rfl
  | b :: l => by
    have h4 := num_lt l
    have h5 : b.toNat < 256 := b.toNat_lt
    have hp : 0 < 256 ^ l.length := Nat.pow_pos (by decide)
    have e1 : num (b :: l) / 256 ^ l.length = b.toNat := by
      rw [num_cons, Nat.mul_comm, Nat.mul_add_div hp, Nat.div_eq_of_lt h4]; rfl
    have e2 : num (b :: l) % 256 ^ l.length = num l := by
      rw [num_cons, Nat.mul_comm, Nat.mul_add_mod, Nat.mod_eq_of_lt h4]
    rw [List.length_cons, be, e1, Nat.mod_eq_of_lt h5, be_cmp.be_mod l.length (num (b :: l)), e2, be_num l]
    simp
theorem num_be : ∀ k u, u < 256 ^ k → num (be k u) = u
  | 0, u, h => by simp at h; subst h; rfl
  | k + 1, u, h => by
    rw [Nat.pow_succ] at h
    have hp : 0 < 256 ^ k := Nat.pow_pos (by decide)
    have d1 : u / 256 ^ k < 256 := Nat.div_lt_of_lt_mul h
    rw [be, num_cons, be_length, be_cmp.be_mod k u, num_be k _ (Nat.mod_lt u hp), UInt8.toNat_ofNat', Nat.mod_mod, Nat.mod_eq_of_lt d1]
    have := Nat.div_add_mod u (256 ^ k)
    rw [Nat.mul_comm] at this
    exact this
theorem decV_enc (v : V) (hv : rightV v = true) (hn : In64 v.f1) (r : List UInt8) : decV (enc v ++ r) = some (v, r) := by
  unfold enc tail
  rcases right_kind hv with k0 | k1 | k2
  · obtain ⟨a1, a2⟩ := right_null hv k0
    rw [if_neg (by omega), if_neg (by omega), k0]
    show some _ = _
    congr 2
    exact v_ext _ _ k0.symm a1.symm (ext _ _ (by rw [a2, mk_toList []]))
  · have a2 := right_int hv k1
    rw [if_pos k1, k1, List.cons_append]
    show (if 8 ≤ (be 8 (off v.f1) ++ r).length then some _ else none) = _
    rw [if_pos (by simp [be_length])]
    have e1 : (be 8 (off v.f1) ++ r).take 8 = be 8 (off v.f1) := List.take_left' (be_length _ _)
    have e2 : (be 8 (off v.f1) ++ r).drop 8 = r := List.drop_left' (be_length _ _)
    rw [e1, e2, num_be _ _ (off_lt hn)]
    congr 2
    refine v_ext _ _ k1.symm ?_ (ext _ _ (by rw [a2, mk_toList []]))
    show (off v.f1 : Int) - 9223372036854775808 = v.f1
    unfold off In64 at *
    omega
  · obtain ⟨a1, a2⟩ := right_text hv k2
    rw [if_neg (by omega), if_pos k2, k2, List.cons_append]
    show (unesc [] (esc v.f2.toList ++ r)).map _ = _
    have e : (⟨2, 0, ⟨v.f2.toList.toArray⟩⟩ : V) = v := v_ext _ _ k2.symm a1.symm (ext _ _ (mk_toList _))
    rw [unesc_esc, List.nil_append, Option.map_some]
    simp only [e]
theorem decG_enc : ∀ (l : List V) (k : Nat) (acc : List V), Good l → acc.length + l.length ≤ 8 → l.length < k → decG k acc (encL l) = some (acc ++ l)
  | [], k, acc, _, _, hk => by
    obtain ⟨k, rfl⟩ : ∃ m, k = m + 1 := ⟨k - 1, by omega⟩
    simp [decG, encL]
  | v :: l, k, acc, hg, hl, hk => by
    obtain ⟨k, rfl⟩ : ∃ m, k = m + 1 := ⟨k - 1, by omega⟩
    obtain ⟨r1, n1, g1⟩ := good_cons hg
    simp only [List.length_cons] at hl hk
    have e := decV_enc v r1 n1 (encL l)
    have hne : encL (v :: l) ≠ [] := by simp [encL, enc]
    simp only [decG]
    rw [if_neg hne]
    simp only [encL]
    rw [e]
    simp only []
    rw [if_pos ⟨r1, by omega⟩, decG_enc l k (acc ++ [v]) g1 (by simp; omega) (by omega)]
    simp
/-! Of bytes. -/
theorem unesc_inv : ∀ (n : Nat) (l acc t r : List UInt8), l.length ≤ n → unesc acc l = some (t, r) → ∃ t', t = acc ++ t' ∧ l = esc t' ++ r := by
  intro n
  induction n with
  | zero =>
    intro l acc t r hl h
    obtain rfl : l = [] := List.length_eq_zero_iff.1 (by omega)
    simp [unesc] at h
  | succ n ih =>
    intro l acc t r hl h
    match l, hl, h with
    | [], _, h => simp [unesc] at h
    | [b], _, h => simp [unesc] at h
    | b :: c :: l, hl, h =>
      simp only [List.length_cons] at hl
      by_cases hb : b = 0
      · subst hb
        simp only [unesc, if_true] at h
        by_cases hc : c = 255
        · subst hc
          rw [if_pos rfl] at h
          obtain ⟨t', e1, e2⟩ := ih l _ _ _ (by omega) h
          exact ⟨0 :: t', by rw [e1]; simp, by rw [e2]; simp [esc]⟩
        · rw [if_neg hc] at h
          by_cases hc1 : c = 1
          · subst hc1
            rw [if_pos rfl] at h
            simp only [Option.some.injEq, Prod.mk.injEq] at h
            obtain ⟨rfl, rfl⟩ := h
            exact ⟨[], by simp, by simp [esc]⟩
          · rw [if_neg hc1] at h
            simp at h
      · rw [unesc_ne _ _ hb] at h
        obtain ⟨t', e1, e2⟩ := ih (c :: l) _ _ _ (by simp only [List.length_cons]; omega) h
        exact ⟨b :: t', by rw [e1]; simp, by rw [e2]; simp [esc, hb]⟩
theorem decV_inv (l : List UInt8) (v : V) (r : List UInt8) (h : decV l = some (v, r)) : l = enc v ++ r ∧ In64 v.f1 := by
  match l, h with
  | [], h => simp [decV] at h
  | b :: l, h =>
    simp only [decV] at h
    by_cases h1 : b = 1
    · rw [if_pos h1] at h
      simp only [Option.some.injEq, Prod.mk.injEq] at h
      obtain ⟨rfl, rfl⟩ := h
      exact ⟨by rw [h1]; rfl, by unfold In64; show -9223372036854775808 ≤ (0 : Int) ∧ (0 : Int) ≤ 9223372036854775807; omega⟩
    · rw [if_neg h1] at h
      by_cases h2 : b = 2
      · rw [if_pos h2] at h
        by_cases h8 : 8 ≤ l.length
        · rw [if_pos h8] at h
          simp only [Option.some.injEq, Prod.mk.injEq] at h
          obtain ⟨rfl, rfl⟩ := h
          have hl : (l.take 8).length = 8 := by simp; omega
          have hn := num_lt (l.take 8)
          rw [hl] at hn
          have hp : (256 : Nat) ^ 8 = 18446744073709551616 := by decide
          have hin : In64 ((num (l.take 8) : Int) - 9223372036854775808) := by unfold In64; omega
          refine ⟨?_, hin⟩
          have ho : off ((num (l.take 8) : Int) - 9223372036854775808) = num (l.take 8) := by unfold off; omega
          have hb := be_num (l.take 8)
          rw [hl] at hb
          unfold enc tail
          show b :: l = UInt8.ofNat (1 + 1 : Int).toNat :: (if (1 : Int) = 1 then be 8 (off ((num (l.take 8) : Int) - 9223372036854775808)) else _) ++ l.drop 8
          rw [if_pos rfl, ho, hb, h2, List.cons_append, List.take_append_drop]
          rfl
        · rw [if_neg h8] at h
          simp at h
      · rw [if_neg h2] at h
        by_cases h3 : b = 3
        · rw [if_pos h3] at h
          cases hu : unesc [] l with
          | none => rw [hu] at h; simp at h
          | some p =>
            rw [hu] at h
            simp only [Option.map_some, Option.some.injEq, Prod.mk.injEq] at h
            obtain ⟨rfl, rfl⟩ := h
            obtain ⟨t', e1, e2⟩ := unesc_inv l.length l [] p.1 p.2 (Nat.le_refl _) hu
            refine ⟨?_, by unfold In64; show -9223372036854775808 ≤ (0 : Int) ∧ (0 : Int) ≤ 9223372036854775807; omega⟩
            unfold enc tail
            show b :: l = UInt8.ofNat (2 + 1 : Int).toNat :: (if (2 : Int) = 1 then _ else if (2 : Int) = 2 then esc (⟨p.1.toArray⟩ : ByteArray).toList else []) ++ p.2
            rw [if_neg (by omega), if_pos rfl, mk_toList, h3, e1, List.nil_append, List.cons_append, ← e2]
            rfl
        · rw [if_neg h3] at h
          simp at h
theorem decG_inv : ∀ (k : Nat) (acc : List V) (l : List UInt8) (r : List V), acc.length ≤ 8 → decG k acc l = some r → ∃ l', r = acc ++ l' ∧ encL l' = l ∧ Good l' ∧ r.length ≤ 8
  | 0, _, _, _, _, h => by simp [decG] at h
  | k + 1, acc, l, r, ha, h => by
    simp only [decG] at h
    by_cases h0 : l = []
    · rw [if_pos h0] at h
      simp only [Option.some.injEq] at h
      subst h
      exact ⟨[], by simp, by rw [h0]; rfl, fun v hv => by simp at hv, ha⟩
    · rw [if_neg h0] at h
      cases hd : decV l with
      | none => rw [hd] at h; simp at h
      | some p =>
        obtain ⟨v, q⟩ := p
        rw [hd] at h
        simp only [] at h
        by_cases hc : rightV v = true ∧ acc.length ≠ 8
        · rw [if_pos hc] at h
          obtain ⟨l', e1, e2, g, hl⟩ := decG_inv k (acc ++ [v]) q r (by simp; omega) h
          obtain ⟨e3, hn⟩ := decV_inv l v q hd
          refine ⟨v :: l', by rw [e1]; simp, by rw [e3, ← e2]; rfl, ?_, hl⟩
          intro x hx
          rcases List.mem_cons.1 hx with rfl | hx
          · exact ⟨hc.1, hn⟩
          · exact g x hx
        · rw [if_neg hc] at h
          simp at h
theorem decode_encode (l : List V) (hn : N64 l) (k : ByteArray) (h : encode l = (k, 0)) : decode k = (l, 0) := by
  unfold encode at h
  by_cases h8 : l.length > 8
  · rw [if_pos h8] at h
    simp at h
  · rw [if_neg h8] at h
    by_cases ha : l.all rightV = true
    · rw [if_pos ha] at h
      simp only [Prod.mk.injEq, and_true] at h
      have hg : Good l := fun v hv => ⟨List.all_eq_true.1 ha v hv, hn v hv⟩
      unfold decode
      rw [← h, mk_toList, decG_enc l 9 [] hg (by simp; omega) (by omega)]
      rfl
    · rw [if_neg ha] at h
      simp at h
theorem decode_cases (s : ByteArray) : (∃ l, decode s = (l, 0) ∧ encode l = (s, 0) ∧ N64 l ∧ l.length ≤ 8) ∨ decode s = ([], 20) := by
  unfold decode
  cases h : decG 9 [] s.toList with
  | none => exact .inr rfl
  | some r =>
    left
    obtain ⟨l', e1, e2, g, hl⟩ := decG_inv 9 [] s.toList r (by simp) h
    rw [List.nil_append] at e1
    subst e1
    refine ⟨r, rfl, ?_, fun v hv => (g v hv).2, hl⟩
    unfold encode
    rw [if_neg (by omega), if_pos (List.all_eq_true.2 (fun v hv => (g v hv).1)), e2, ← mk_ext s _ rfl]
end Go.Proofs.Ytkhbmamcbhjafaa.Keys
