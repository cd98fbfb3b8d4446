/- Layer 1: what the document's functions answer, in plain words (over the printed functions). -/
import Derived.Test.YtnejbilnhebphaaDoorPRefx3
import Derived.Test.YtnejbilnhebphaaDoorPRefx2
import Derived.Test.YtnejbilnhebphaaDoorPRefx1
import Derived.Test.YtnejbilnhebphaaDoorStr
import Derived.Test.YtnejbilnhebphaaDoorValP
import Derived.Test.YtnejbilnhebphaaDoorValN
namespace Go.Proofs.YtnejbilnhebphaaDoor.Val
open Go.Lib Go.RowKit Go.Proofs.YtnejbilnhebphaaDoorW.PrintWords Go.Proofs.YtnejbilnhebphaaDoorW.PrintLast Go.Proofs.YtnejbilnhebphaaDoorW.PrintMore Go.Proofs.YtnejbilnhebphaaDoor.Str Go.Proofs.YtnejbilnhebphaaDoor.PRef
set_option linter.unusedVariables false
set_option linter.unusedSimpArgs false
def ba (l : List UInt8) : ByteArray := ⟨l.toArray⟩
theorem ba_toList (l : List UInt8) : (ba l).toList = l := by rw [toList_eq]; simp [ba]
theorem ba_size (l : List UInt8) : (ba l).size = l.length := by simp [ba, ByteArray.size]
theorem ba_eq (a : ByteArray) : ba a.toList = a := Str.ext _ _ (by rw [ba_toList])
theorem size_toList (a : ByteArray) : a.toList.length = a.size := by rw [toList_eq]; rfl
theorem ba_append (l m : List UInt8) : ba l ++ ba m = ba (l ++ m) := by
  refine Str.ext _ _ ?_
  rw [ba_toList, toList_eq, ByteArray.data_append]
  simp [ba]
def numsL (l : List UInt8) : List Int := l.map (fun c => (c.toNat : Int))
theorem strOfNums_numsL (l : List UInt8) : strOfNums (numsL l) = ba l := by
  simp [strOfNums, numsL, ba, List.map_map, Function.comp_def]
theorem bt_list {a : ByteArray} {i : Nat} {c : UInt8} (h : a.toList[i]? = some c) : bt a (i : Int) = (c.toNat : Int) := by
  obtain ⟨hi, he⟩ := List.getElem?_eq_some_iff.1 h
  have hi' : i < a.size := by rw [← size_toList]; exact hi
  unfold bt
  rw [dif_pos (by simpa using hi')]
  have : a[i] = c := by
    rw [← he]
    simp only [toList_eq]
    rfl
  simp only [Int.toNat_natCast, this]
theorem w64 (n : Int) (h0 : -9223372036854775808 ≤ n) (h1 : n ≤ 9223372036854775807) : wrap64 n = n := by unfold wrap64; omega
theorem tm (x : Int) (u : Nat) (h : x.natAbs = u) : (0 ≤ x ∧ Int.tmod x 10 = ((u % 10 : Nat) : Int) ∧ Int.tdiv x 10 = ((u / 10 : Nat) : Int)) ∨ (x < 0 ∧ Int.tmod x 10 = -((u % 10 : Nat) : Int) ∧ Int.tdiv x 10 = -((u / 10 : Nat) : Int)) := by
  by_cases hx : 0 ≤ x
  · left
    rw [Int.tmod_eq_emod_of_nonneg hx, Int.tdiv_eq_ediv_of_nonneg hx]
    omega
  · right
    obtain ⟨y, rfl⟩ : ∃ y, x = -y := ⟨-x, by omega⟩
    have hy : 0 ≤ y := by omega
    rw [Int.neg_tmod, Int.neg_tdiv, Int.tmod_eq_emod_of_nonneg hy, Int.tdiv_eq_ediv_of_nonneg hy]
    omega
def decE (u : Nat) : List UInt8 := if u = 0 then [] else decDigits u
theorem decE_step (u : Nat) (h : u ≠ 0) : decE u = decE (u / 10) ++ [UInt8.ofNat (48 + u % 10)] := by
  unfold decE
  rw [if_neg h, decDigits]
  split
  · rename_i h1
    rw [if_pos (by omega)]
    have : u % 10 = u := by omega
    rw [this]; rfl
  · rw [if_neg (by omega)]
theorem one_digit (d : Nat) (h : d < 10) (e : Int) (he : e = ((48 + d : Nat) : Int)) : strOfNums ([e] : List Int) = ba [UInt8.ofNat (48 + d)] := by
  subst he
  have e : ((48 + d : Nat) : Int).toNat = 48 + d := Int.toNat_natCast _
  simp only [strOfNums, ba, List.map_cons, List.map_nil, e]
theorem digits_loop (x0 : Int) : ∀ (d : Nat) (u : Nat) (x : Int) (out : List UInt8) (k : Nat), u < d → x.natAbs = u → -9223372036854775808 ≤ x → x ≤ 9223372036854775807 → out.length + (decE u).length ≤ 100 → d < k →
    lintelref01_Digits.l0 k x0 (ba out) x = some (ba ((if x0 < 0 then [45] else []) ++ (decE u ++ out)))
  | 0, u, x, out, k, h, _, _, _, _, _ => by omega
  | d + 1, u, x, out, k, h, hu, h0, h1, ho, hk => by
    obtain ⟨k, rfl⟩ : ∃ m, k = m + 1 := ⟨k - 1, by omega⟩
    rw [lintelref01_Digits.l0]
    by_cases hx : x = 0
    · rw [if_pos hx]
      have hu0 : u = 0 := by omega
      subst hu0
      by_cases hn : x0 < 0
      · rw [if_pos hn, if_pos (by rw [ba_size]; omega), if_pos hn]
        have : (⟨#[45]⟩ : ByteArray) = ba [45] := rfl
        rw [this, ba_append]
        simp [decE]
      · rw [if_neg hn, if_neg hn]
        simp [decE]
    · rw [if_neg hx]
      have hu0 : u ≠ 0 := by omega
      have hst : (decE u).length = (decE (u / 10)).length + 1 := by rw [decE_step u hu0]; simp
      have key : ∀ (e : Int), e = ((48 + u % 10 : Nat) : Int) → ∀ y : Int, y.natAbs = u / 10 → -9223372036854775808 ≤ y → y ≤ 9223372036854775807 →
          ((some ([e] : List Int)).bind fun y109 => (if (strOfNums y109).size + (ba out).size ≤ 9223372036854775807 then (lintelref01_Digits.l0 k x0 ((strOfNums y109) ++ (ba out)) y) else none)) = some (ba ((if x0 < 0 then [45] else []) ++ (decE u ++ out))) := by
        intro e he y hy hy0 hy1
        simp only [Option.bind_some]
        rw [one_digit (u % 10) (by omega) e he, if_pos (by rw [ba_size, ba_size]; simp; omega), ba_append, digits_loop x0 d (u / 10) y _ k (by omega) hy hy0 hy1 (by simp; omega) (by omega), decE_step u hu0]
        simp
      rcases tm x u hu with ⟨hs, e1, e2⟩ | ⟨hs, e1, e2⟩
      · rw [e1, e2, if_neg (by omega), w64 (48 + _) (by omega) (by omega), w64 _ (by omega) (by omega)]
        exact key _ (by omega) _ (by omega) (by omega) (by omega)
      · rw [e1, e2]
        by_cases hz : u % 10 = 0
        · rw [hz, if_neg (by omega), w64 (48 + _) (by omega) (by omega), w64 _ (by omega) (by omega)]
          exact key _ (by omega) _ (by omega) (by omega) (by omega)
        · rw [if_pos (by omega), w64 (-(-_)) (by omega) (by omega), w64 (48 + _) (by omega) (by omega), w64 _ (by omega) (by omega)]
          exact key _ (by omega) _ (by omega) (by omega) (by omega)
theorem digits_f (n : Int) (h0 : -9223372036854775808 ≤ n) (h1 : n ≤ 9223372036854775807) : ∃ k, lintelref01_Digits.f k n = some (ba (itoa n)) := by
  refine ⟨n.natAbs + 2, ?_⟩
  unfold lintelref01_Digits.f
  by_cases hn : n = 0
  · rw [if_pos hn, hn]
    have : itoa 0 = [48] := by simp [itoa, decDigits]
    rw [this]; rfl
  · rw [if_neg hn]
    have := digits_loop n (n.natAbs + 1) n.natAbs n [] (n.natAbs + 2) (by omega) rfl h0 h1 (by
      unfold decE
      split
      · simp
      · rw [decDigits_length]
        have := nDigits_le20 n.natAbs (by omega)
        simp; omega) (by omega)
    have e : (⟨#[]⟩ : ByteArray) = ba [] := rfl
    rw [e, this]
    unfold itoa decE
    by_cases hs : n < 0
    · rw [if_pos hs, if_neg (by omega), if_pos hs]; simp
    · rw [if_neg hs, if_neg (by omega), if_neg hs]
      have : n.natAbs = n.toNat := by omega
      simp [this]
/-- May a value be? -/
def okV (kd n : Int) (s : List UInt8) : Bool := if kd = 0 then decide (n = 0) && decide (s = []) else if kd = 1 then decide (s = []) else decide (kd = 2) && decide (n = 0) && decide (s.length ≤ 64)
/-- How it is written. -/
def printV (kd n : Int) (s : List UInt8) : List UInt8 × Int := if okV kd n s then (if kd = 0 then [110, 117, 108, 108] else if kd = 1 then itoa n else quote s, 0) else ([], 10)
theorem right_f (kd n : Int) (s : ByteArray) : lintelref01_Right.f kd n s = some (okV kd n s.toList) := by
  unfold lintelref01_Right.f okV
  rw [size_toList]
  by_cases h0 : kd = 0
  · simp only [if_pos h0]
    by_cases h1 : n = 0 <;> simp [h1]
    by_cases h2 : s.toList = [] <;> simp [h2]
  · simp only [if_neg h0]
    by_cases h1 : kd = 1
    · simp only [if_pos h1]
      by_cases h2 : s.toList = [] <;> simp [h2]
    · simp only [if_neg h1]
      by_cases h2 : kd = 2 <;> by_cases h3 : n = 0 <;> simp [h2, h3]
      omega
theorem check_f (kd n : Int) (s : ByteArray) : value_Check.f kd n s = some (if okV kd n s.toList then 0 else 10) := by
  unfold value_Check.f okV
  rw [size_toList]
  by_cases h0 : kd = 0
  · simp only [if_pos h0]
    by_cases h1 : n = 0 <;> by_cases h2 : s.toList = [] <;> simp [h1, h2]
  · simp only [if_neg h0]
    by_cases h1 : kd = 1
    · simp only [if_pos h1]
      by_cases h2 : s.toList = [] <;> simp [h2]
    · simp only [if_neg h1]
      by_cases h2 : kd = 2 <;> by_cases h3 : n = 0 <;> by_cases h4 : s.size ≤ 64 <;> simp [h2, h3, h4]
      all_goals omega
theorem print_loop (s : ByteArray) (kd n : Int) (hs : s.size ≤ 64) : ∀ (d i k : Nat), s.size - i = d → i ≤ s.size → d < k →
    lintelref01_Print.l0 k (numsL (39 :: dbl (s.toList.take i))) (i : Int) kd n s = some (ba (quote s.toList), 0)
  | 0, i, k, hd, hi, hk => by
    obtain ⟨k, rfl⟩ : ∃ m, k = m + 1 := ⟨k - 1, by omega⟩
    have hl : s.toList.take i = s.toList := List.take_of_length_le (by rw [size_toList]; omega)
    have hq := dbl_le s.toList
    rw [size_toList] at hq
    rw [lintelref01_Print.l0, if_neg (by omega), hl, if_pos (by simp [numsL]; omega)]
    have : numsL (39 :: dbl s.toList) ++ [39] = numsL (quote s.toList) := by simp [numsL, quote]
    rw [this, strOfNums_numsL]
  | d + 1, i, k, hd, hi, hk => by
    obtain ⟨k, rfl⟩ : ∃ m, k = m + 1 := ⟨k - 1, by omega⟩
    have hil : i < s.toList.length := by rw [size_toList]; omega
    have hc : s.toList[i]? = some s.toList[i] := List.getElem?_eq_getElem hil
    have hq := dbl_le (s.toList.take i)
    have htl : (s.toList.take i).length ≤ i := List.length_take_le _ _
    have htk : s.toList.take (i + 1) = s.toList.take i ++ [s.toList[i]] := List.take_succ_eq_append_getElem hil
    have ih := print_loop s kd n hs d (i + 1) k (by omega) (by omega) (by omega)
    rw [htk, dbl_snoc] at ih
    have hw : wrap64 ((i : Int) + 1) = ((i + 1 : Nat) : Int) := by rw [w64 _ (by omega) (by omega)]; omega
    rw [lintelref01_Print.l0, if_pos (by omega), if_pos (by omega), bt_list hc, hw]
    by_cases h39 : s.toList[i] = 39
    · rw [if_pos (by rw [h39]; rfl), if_pos (by simp [numsL]; omega)]
      simp only [Option.bind_some]
      rw [if_pos (by simp [numsL]; omega)]
      rw [if_pos h39] at ih
      rw [h39]
      have : numsL (39 :: dbl (s.toList.take i)) ++ [39] ++ [(((39 : UInt8).toNat : Nat) : Int)] = numsL (39 :: (dbl (s.toList.take i) ++ [39, 39])) := by simp [numsL]
      rw [this]
      exact ih
    · rw [if_neg (by intro e; exact h39 (UInt8.toNat_inj.1 (by have : (39 : UInt8).toNat = 39 := rfl; omega))), if_pos (by simp [numsL]; omega)]
      rw [if_neg h39] at ih
      have : numsL (39 :: dbl (s.toList.take i)) ++ [((s.toList[i].toNat : Nat) : Int)] = numsL (39 :: (dbl (s.toList.take i) ++ [s.toList[i]])) := by simp [numsL]
      rw [this]
      exact ih
theorem print_f (kd n : Int) (s : ByteArray) (h0 : -9223372036854775808 ≤ n) (h1 : n ≤ 9223372036854775807) : ∃ k, lintelref01_Print.f k kd n s = some (ba (printV kd n s.toList).1, (printV kd n s.toList).2) := by
  obtain ⟨kD, hD⟩ := digits_f n h0 h1
  unfold lintelref01_Print.f
  simp only [right_f, Option.bind_some]
  unfold printV
  cases hok : okV kd n s.toList
  · exact ⟨0, by simp; rfl⟩
  · simp only [if_true]
    by_cases hk0 : kd = 0
    · exact ⟨0, by simp only [if_pos hk0]; rfl⟩
    · simp only [if_neg hk0]
      by_cases hk1 : kd = 1
      · refine ⟨kD, ?_⟩
        simp only [if_pos hk1, hD, Option.bind_some]
      · simp only [if_neg hk1]
        have hs : s.size ≤ 64 := by
          unfold okV at hok
          rw [if_neg hk0, if_neg hk1, size_toList] at hok
          simp at hok
          exact hok.2
        refine ⟨s.size + 1, ?_⟩
        have := print_loop s kd n hs s.size 0 (s.size + 1) rfl (Nat.zero_le _) (by omega)
        simpa [numsL, dbl] using this
end Go.Proofs.YtnejbilnhebphaaDoor.Val
