/- Encode, whole. -/
import Derived.Test.YtaedejjbchpbfaaKeysE
namespace Go.Proofs.Ytaedejjbchpbfaa.Keys
open Go.RowKit Go.Proofs.YtaedejjbchpbfaaW.PrintWords Go.Proofs.YtaedejjbchpbfaaW.PrintLast Go.Proofs.YtaedejjbchpbfaaW.PrintMore Go.Proofs.Ytaedejjbchpbfaa.Str Go.Proofs.Ytaedejjbchpbfaa.PRef Go.Proofs.Ytaedejjbchpbfaa.Stands
set_option linter.unusedVariables false
set_option linter.unusedSimpArgs false
/-- All of them 64 bits, as they are read. -/
def N64 (l : List V) : Prop := ∀ v ∈ l, In64 v.f1
/-- The key of a list, or what is wrong with it. -/
def encode (l : List V) : ByteArray × Int := if l.length > 8 then (⟨#[]⟩, 21) else if l.all rightV = true then (⟨(encL l).toArray⟩, 0) else (⟨#[]⟩, 10)
theorem rdv (l : List V) (i : Nat) (h : i < l.length) : rd_T24 l (i : Int) = l[i] := by
  show l.getD i _ = _
  rw [List.getD_eq_getElem?_getD, List.getElem?_eq_getElem h]; rfl
theorem enc_length (v : V) (h : rightV v = true) : (enc v).length ≤ 131 := by
  unfold enc tail
  have he : ∀ l : List UInt8, (esc l).length ≤ 2 * l.length + 2 := by
    intro l
    induction l with
    | nil => simp [esc]
    | cons b l ih => simp only [esc]; split <;> simp <;> omega
  rcases right_kind h with k0 | k1 | k2
  · rw [if_neg (by omega), if_neg (by omega)]; simp
  · rw [if_pos k1]; simp [be_length]
  · rw [if_neg (by omega), if_pos k2]
    have h1 := he v.f2.toList
    have h2 := (right_text h k2).2
    rw [size_toList] at h1
    simp only [List.length_cons]
    omega
theorem encL_length : ∀ (l : List V), l.all rightV = true → (encL l).length ≤ 131 * l.length
  | [], _ => by simp [encL]
  | v :: l, h => by
    simp only [List.all_cons, Bool.and_eq_true] at h
    have := enc_length v h.1
    have := encL_length l h.2
    simp only [encL, List.length_append, List.length_cons]
    omega
theorem take_succ' (l : List V) (i : Nat) (h : i < l.length) : l.take (i + 1) = l.take i ++ [l[i]] := by rw [List.take_succ_eq_append_getElem h]
theorem all_take (l : List V) (i : Nat) (h : i < l.length) (ha : (l.take i).all rightV = true) (hr : rightV l[i] = true) : (l.take (i + 1)).all rightV = true := by
  rw [take_succ' l i h, List.all_append, ha]; simp [hr]
theorem not_all (l : List V) (i : Nat) (h : i < l.length) (hr : rightV l[i] = false) : l.all rightV = false := by
  rw [List.all_eq_false]
  exact ⟨l[i], List.getElem_mem h, by simp [hr]⟩
theorem encode_l0 (l : List V) (hn : N64 l) (hl : l.length ≤ 8) : ∀ (d i k : Nat), l.length - i = d → i ≤ l.length → d + 200 ≤ k → (l.take i).all rightV = true →
    keys_Encode.l0 k (ints (encL (l.take i))) l (l.length : Int) (i : Int) = some (encode l) := by
  intro d
  induction d with
  | zero =>
    intro i k hd hi hk ha
    obtain ⟨k, rfl⟩ : ∃ m, k = m + 1 := ⟨k - 1, by omega⟩
    have e : l.take i = l := List.take_of_length_le (by omega)
    rw [e] at ha ⊢
    simp only [keys_Encode.l0]
    rw [if_neg (by omega), str_ints]
    unfold encode
    rw [if_neg (by omega), if_pos ha]
  | succ d ih =>
    intro i k hd hi hk ha
    obtain ⟨k, rfl⟩ : ∃ m, k = m + 1 := ⟨k - 1, by omega⟩
    have hlt : i < l.length := by omega
    have hlen := encL_length (l.take i) ha
    have hlt2 : (l.take i).length ≤ i := List.length_take_le _ _
    have ih' := ih (i + 1) k (by omega) (by omega) (by omega)
    simp only [keys_Encode.l0]
    rw [if_pos (by omega), if_pos (by omega), if_pos (by omega), rdv l i hlt, check_eq]
    simp only [Option.bind_some]
    by_cases hr : rightV l[i] = true
    · have hr' : rightV ⟨l[i].f0, l[i].f1, l[i].f2⟩ = true := hr
      rw [if_pos (by rw [if_pos hr']), add_eq l[i] hr (hn _ (List.getElem_mem hlt)) k _ (by omega) (by rw [ints_length]; omega)]
      simp only [Option.bind_some]
      have h1 := ih' (all_take l i hlt ha hr)
      rw [take_succ' l i hlt, encL_app, ints_app] at h1
      have hw : wrap64 ((i : Int) + 1) = ((i + 1 : Nat) : Int) := by unfold wrap64; omega
      rw [hw]
      simpa [encL] using h1
    · have hr : rightV l[i] = false := by simpa using hr
      have hr' : rightV ⟨l[i].f0, l[i].f1, l[i].f2⟩ = false := hr
      have he : encode l = (⟨#[]⟩, 10) := by
        unfold encode
        rw [if_neg (by omega), not_all l i hlt hr]; rfl
      rw [hr', he]
      simp
theorem encode_eq (l : List V) (hn : N64 l) (k : Nat) (hk : 300 ≤ k) : keys_Encode.f k l = some (encode l) := by
  unfold keys_Encode.f
  by_cases h8 : l.length > 8
  · rw [if_pos (by omega)]
    unfold encode
    rw [if_pos h8]
  · rw [if_neg (by omega)]
    have := encode_l0 l hn (by omega) l.length 0 k (by omega) (by omega) (by omega) (by simp)
    simpa [encL, ints] using this
theorem mk_app (a b : List UInt8) : (⟨a.toArray⟩ : ByteArray) ++ ⟨b.toArray⟩ = ⟨(a ++ b).toArray⟩ := by
  apply ext
  rw [mk_toList]
  simp [toList_eq]
theorem mk_size (a : List UInt8) : (⟨a.toArray⟩ : ByteArray).size = a.length := by rw [← size_toList, mk_toList]
theorem ref_encode_l0 (l : List V) (hn : N64 l) (hl : l.length ≤ 8) : ∀ (d i k : Nat), l.length - i = d → i ≤ l.length → d + 200 ≤ k → (l.take i).all rightV = true →
    lintelref02_Encode.l0 k l ⟨(encL (l.take i)).toArray⟩ (i : Int) = some (encode l) := by
  intro d
  induction d with
  | zero =>
    intro i k hd hi hk ha
    obtain ⟨k, rfl⟩ : ∃ m, k = m + 1 := ⟨k - 1, by omega⟩
    have e : l.take i = l := List.take_of_length_le (by omega)
    rw [e] at ha ⊢
    simp only [lintelref02_Encode.l0]
    rw [if_neg (by omega)]
    unfold encode
    rw [if_neg (by omega), if_pos ha]
  | succ d ih =>
    intro i k hd hi hk ha
    obtain ⟨k, rfl⟩ : ∃ m, k = m + 1 := ⟨k - 1, by omega⟩
    have hlt : i < l.length := by omega
    have hlen := encL_length (l.take i) ha
    have hlt2 : (l.take i).length ≤ i := List.length_take_le _ _
    have ih' := ih (i + 1) k (by omega) (by omega) (by omega)
    simp only [lintelref02_Encode.l0]
    rw [if_pos (by omega), if_pos (by omega), rdv l i hlt, right_eq]
    simp only [Option.bind_some]
    by_cases hr : rightV l[i] = true
    · have hr' : rightV ⟨l[i].f0, l[i].f1, l[i].f2⟩ = true := hr
      have hel := enc_length _ hr
      rw [if_pos hr', one_eq l[i] hr (hn _ (List.getElem_mem hlt)) k (by omega)]
      simp only [Option.bind_some]
      rw [if_pos (by rw [mk_size, mk_size]; omega), mk_app]
      have h1 := ih' (all_take l i hlt ha hr)
      rw [take_succ' l i hlt, encL_app] at h1
      have hw : wrap64 ((i : Int) + 1) = ((i + 1 : Nat) : Int) := by unfold wrap64; omega
      rw [hw]
      simpa [encL] using h1
    · have hr : rightV l[i] = false := by simpa using hr
      have hr' : rightV ⟨l[i].f0, l[i].f1, l[i].f2⟩ = false := hr
      have he : encode l = (⟨#[]⟩, 10) := by
        unfold encode
        rw [if_neg (by omega), not_all l i hlt hr]; rfl
      rw [hr', he]
      simp
theorem ref_encode_eq (l : List V) (hn : N64 l) (k : Nat) (hk : 300 ≤ k) : lintelref02_Encode.f k l = some (encode l) := by
  unfold lintelref02_Encode.f
  by_cases h8 : l.length > 8
  · rw [if_pos (by omega)]
    unfold encode
    rw [if_pos h8]
  · rw [if_neg (by omega)]
    have := ref_encode_l0 l hn (by omega) l.length 0 k (by omega) (by omega) (by omega) (by simp)
    simpa [encL] using this
end Go.Proofs.Ytaedejjbchpbfaa.Keys
