/- Layer 1: what the document reads of a text, in plain words (over the printed functions). -/
import Derived.Test.YtnejbilnhebphaaDoorValR
import Derived.IntWalk
import Derived.Lib.ParseIntBTie
namespace Go.Proofs.YtnejbilnhebphaaDoor.Val
open Go.Lib Go.RowKit Go.Proofs.YtnejbilnhebphaaDoorW.PrintWords Go.Proofs.YtnejbilnhebphaaDoorW.PrintLast Go.Proofs.YtnejbilnhebphaaDoorW.PrintMore Go.Proofs.YtnejbilnhebphaaDoor.Str Go.Proofs.YtnejbilnhebphaaDoor.PRef
set_option linter.unusedVariables false
set_option linter.unusedSimpArgs false
/-- What number answers of digits behind the sign. -/
def finN (neg : Bool) (v : Nat) (l : List UInt8) : Int × Bool :=
  if neg then (wrap64 (-(wrap64 v)), decide (v ≤ 9223372036854775808) && decide (0 < v) && (((l.headD 0).toNat : Int) != 48))
  else (wrap64 v, decide (v < 9223372036854775808) && (decide (l.length = 1) || (((l.headD 0).toNat : Int) != 48)))
theorem num_end (x0 : ByteArray) (neg : Bool) (hp : 0 < x0.size) (v : Nat) (k : Nat) :
    lintelref01_number.l0 (k + 1) x0 neg (v : Int) (x0.size : Int) = some (finN neg v x0.toList) := by
  have hl := size_toList x0
  have h0 : x0.toList[0]? = some (x0.toList.headD 0) := by
    cases hx : x0.toList with
    | nil => rw [hx] at hl; simp at hl; omega
    | cons c r => rfl
  have hb : bt x0 0 = ((x0.toList.headD 0).toNat : Int) := bt_list (i := 0) h0
  rw [lintelref01_number.l0, if_neg (by omega)]
  unfold finN
  rw [hl, hb]
  cases neg
  · simp only [Bool.false_eq_true, if_false]
    by_cases h1 : v < 9223372036854775808
    · rw [if_pos (by omega)]
      by_cases h2 : x0.size = 1
      · rw [if_pos (by omega)]; simp [h1, h2]
      · rw [if_neg (by omega), if_pos (by omega)]; simp [h1, h2]
    · rw [if_neg (by omega)]; simp [h1]
  · simp only [if_true]
    by_cases h1 : v ≤ 9223372036854775808
    · rw [if_pos (by omega)]
      by_cases h2 : 0 < v
      · rw [if_pos (by omega), if_pos (by omega)]; simp [h1, h2]
      · rw [if_neg (by omega)]; simp [h1, h2]
    · rw [if_neg (by omega)]; simp [h1]
theorem num_loop (x0 : ByteArray) (neg : Bool) (hs : x0.size ≤ 19) (hp : 0 < x0.size) : ∀ (d i k : Nat), x0.size - i = d → i ≤ x0.size → d < k → (∀ c ∈ x0.toList.take i, isDig c = true) →
    lintelref01_number.l0 k x0 neg (val (x0.toList.take i) : Int) (i : Int) = some (if (x0.toList.drop i).all isDig then finN neg (val x0.toList) x0.toList else (0, false))
  | 0, i, k, hd, hi, hk, hall => by
    obtain ⟨k, rfl⟩ : ∃ m, k = m + 1 := ⟨k - 1, by omega⟩
    have hl := size_toList x0
    obtain rfl : i = x0.size := by omega
    rw [List.take_of_length_le (by omega), num_end x0 neg hp, List.drop_eq_nil_of_le (by omega)]
    simp
  | d + 1, i, k, hd, hi, hk, hall => by
    obtain ⟨k, rfl⟩ : ∃ m, k = m + 1 := ⟨k - 1, by omega⟩
    have hl := size_toList x0
    have hil : i < x0.toList.length := by omega
    have hc : x0.toList[i]? = some x0.toList[i] := List.getElem?_eq_getElem hil
    have htk : x0.toList.take (i + 1) = x0.toList.take i ++ [x0.toList[i]] := List.take_succ_eq_append_getElem hil
    have hdr : x0.toList.drop i = x0.toList[i] :: x0.toList.drop (i + 1) := List.drop_eq_getElem_cons hil
    have hw : wrap64 ((i : Int) + 1) = ((i + 1 : Nat) : Int) := by rw [w64 _ (by omega) (by omega)]; omega
    have hv := val_lt i (x0.toList.take i) (by simp; omega) hall
    have hv2 : (10 : Nat) ^ i ≤ 10 ^ 18 := Nat.pow_le_pow_right (by decide) (by omega)
    have hv3 : (10 : Nat) ^ 18 = 1000000000000000000 := by decide
    have hvb : val (x0.toList.take i) < 1000000000000000000 := by omega
    clear hv hv2 hv3
    rw [lintelref01_number.l0, if_pos (by omega), if_pos (by omega), bt_list hc, hw, hdr, List.all_cons]
    by_cases h1 : (x0.toList[i].toNat : Int) < 48
    · rw [if_pos h1]
      have : isDig x0.toList[i] = false := by unfold isDig; simp; omega
      rw [this]; simp
    · rw [if_neg h1]
      by_cases h2 : (x0.toList[i].toNat : Int) > 57
      · rw [if_pos h2]
        have : isDig x0.toList[i] = false := by unfold isDig; simp; omega
        rw [this]; simp
      · rw [if_neg h2]
        have hdg : isDig x0.toList[i] = true := by unfold isDig; simp; omega
        have ih := num_loop x0 neg hs hp d (i + 1) k (by omega) (by omega) (by omega) (by
          intro c hc'
          rw [htk] at hc'
          rcases List.mem_append.1 hc' with h | h
          · exact hall c h
          · rw [List.mem_singleton.1 h]; exact hdg)
        rw [htk, val_snoc] at ih
        have e : IntKind.u64.wrap ((IntKind.u64.wrap ((val (x0.toList.take i) : Int) * 10)) + (((x0.toList[i].toNat : Int) - 48) % 256)) = ((val (x0.toList.take i) * 10 + (x0.toList[i].toNat - 48) : Nat) : Int) := by
          rw [IntWalk.u64_in (_ * 10) (by omega), IntWalk.u64_in _ (by omega)]
          omega
        rw [e, ih, hdg]
        simp
theorem num_tail (x0 : ByteArray) (neg : Bool) : ∃ k v ok, lintelref01_number.j1 k x0 neg = some (v, ok) ∧
    (ok = true → ∃ u : Nat, x0.toList = decDigits u ∧ (neg = true → 0 < u ∧ u ≤ 9223372036854775808 ∧ v = -(u : Int)) ∧ (neg = false → u ≤ 9223372036854775807 ∧ v = (u : Int))) ∧
    (ok = false → ∀ u : Nat, (neg = true → 0 < u ∧ u ≤ 9223372036854775808) → (neg = false → u ≤ 9223372036854775807) → x0.toList ≠ decDigits u) := by
  have hl := size_toList x0
  by_cases h0 : x0.size = 0
  · refine ⟨2, 0, false, ?_, fun h => (nomatch h), fun _ u _ _ e => ?_⟩
    · rw [lintelref01_number.j1, if_pos (by omega), lintelref01_number.j2, if_pos rfl]
    · exact decDigits_ne u (by rw [← e]; exact List.length_eq_zero_iff.1 (by omega))
  · by_cases h19 : x0.size > 19
    · refine ⟨2, 0, false, ?_, fun h => (nomatch h), fun _ u h1 h2 e => ?_⟩
      · rw [lintelref01_number.j1, if_neg (by omega), lintelref01_number.j2, decide_eq_true (by omega), if_pos rfl]
      · have hu : u < 10000000000000000000 := by
          cases neg
          · have := h2 rfl; omega
          · have := h1 rfl; omega
        have := dec_len u hu
        rw [← e] at this
        omega
    · have hlp := num_loop x0 neg (by omega) (by omega) x0.size 0 (x0.size + 1) rfl (by omega) (by omega) (by simp)
      have hv0 : (val (x0.toList.take 0) : Int) = 0 := by simp [val]
      rw [hv0] at hlp
      have hlp' : lintelref01_number.l0 (x0.size + 1) x0 neg 0 0 = some (if x0.toList.all isDig then finN neg (val x0.toList) x0.toList else (0, false)) := by simpa using hlp
      have hj : lintelref01_number.j1 (x0.size + 3) x0 neg = some (if x0.toList.all isDig then finN neg (val x0.toList) x0.toList else (0, false)) := by
        rw [lintelref01_number.j1, if_neg (by omega), lintelref01_number.j2, decide_eq_false (by omega), if_neg (by decide), hlp']
      cases hall : x0.toList.all isDig with
      | false =>
        rw [hall] at hj
        refine ⟨x0.size + 3, 0, false, by simpa using hj, fun h => (nomatch h), fun _ u h1 h2 e => ?_⟩
        have : x0.toList.all isDig = true := by
          rw [List.all_eq_true, e]
          exact dec_digits (u + 1) u (by omega)
        rw [hall] at this
        cases this
      | true =>
        rw [hall] at hj
        have hd : ∀ c ∈ x0.toList, isDig c = true := fun c hc => List.all_eq_true.1 hall c hc
        have hne : x0.toList ≠ [] := fun e => by rw [e] at hl; simp at hl; omega
        obtain ⟨c0, r, hh⟩ : ∃ c0 r, x0.toList = c0 :: r := by
          cases h : x0.toList with
          | nil => exact absurd h hne
          | cons c r => exact ⟨c, r, rfl⟩
        have hhd : x0.toList.headD 0 = c0 := by rw [hh]; rfl
        have hcn : c0.toNat ≠ 48 → ∀ c, x0.toList.head? = some c → c.toNat ≠ 48 := by
          intro h c hc
          rw [hh] at hc
          obtain rfl : c0 = c := by simpa using hc
          exact h
        have hck : ∀ u : Nat, x0.toList = decDigits u → val x0.toList = u ∧ (0 < u → c0.toNat ≠ 48) ∧ (u = 0 → x0.toList.length = 1) := by
          intro u e
          refine ⟨by rw [e]; exact val_dec (u + 1) u (by omega), fun hp => dec_head (u + 1) u (by omega) hp c0 (by rw [← e, hh]; rfl), fun h0 => by rw [e, h0]; simp [decDigits]⟩
        cases neg
        · refine ⟨x0.size + 3, wrap64 (val x0.toList), decide (val x0.toList < 9223372036854775808) && (decide (x0.toList.length = 1) || ((c0.toNat : Int) != 48)), by rw [hj, ← hhd]; rfl, fun hok => ?_, fun hok u h1 h2 e => ?_⟩
          · simp only [Bool.and_eq_true, decide_eq_true_eq, Bool.or_eq_true, bne_iff_ne, ne_eq] at hok
            have hc : x0.toList.length = 1 ∨ ∀ c, x0.toList.head? = some c → c.toNat ≠ 48 := by
              rcases hok.2 with h | h
              · exact .inl (by omega)
              · exact .inr (hcn (by omega))
            exact ⟨val x0.toList, (canon _ _ rfl hne hd hc).1, fun h => (nomatch h), fun _ => ⟨by omega, w64 _ (by omega) (by omega)⟩⟩
          · obtain ⟨h3, h4, h5⟩ := hck u e
            have h6 := h2 rfl
            have ht : (decide (val x0.toList < 9223372036854775808) && (decide (x0.toList.length = 1) || ((c0.toNat : Int) != 48))) = true := by
              simp only [Bool.and_eq_true, decide_eq_true_eq, Bool.or_eq_true, bne_iff_ne, ne_eq]
              by_cases hp : 0 < u
              · have := h4 hp
                exact ⟨by omega, .inr (by omega)⟩
              · exact ⟨by omega, .inl (h5 (by omega))⟩
            rw [ht] at hok
            cases hok
        · refine ⟨x0.size + 3, wrap64 (-(wrap64 (val x0.toList))), decide (val x0.toList ≤ 9223372036854775808) && decide (0 < val x0.toList) && ((c0.toNat : Int) != 48), by rw [hj, ← hhd]; rfl, fun hok => ?_, fun hok u h1 h2 e => ?_⟩
          · simp only [Bool.and_eq_true, decide_eq_true_eq, Bool.or_eq_true, bne_iff_ne, ne_eq] at hok
            refine ⟨val x0.toList, (canon _ _ rfl hne hd (.inr (hcn (by omega)))).1, fun _ => ⟨by omega, by omega, ?_⟩, fun h => (nomatch h)⟩
            have := hok.1.1
            unfold wrap64
            omega
          · obtain ⟨h3, h4, h5⟩ := hck u e
            have h6 := h1 rfl
            have h7 := h4 h6.1
            have ht : (decide (val x0.toList ≤ 9223372036854775808) && decide (0 < val x0.toList) && ((c0.toNat : Int) != 48)) = true := by
              simp only [Bool.and_eq_true, decide_eq_true_eq, Bool.or_eq_true, bne_iff_ne, ne_eq]
              exact ⟨⟨by omega, by omega⟩, by omega⟩
            rw [ht] at hok
            cases hok
theorem dec_no_minus (u : Nat) (r : List UInt8) : decDigits u ≠ 45 :: r := by
  intro e
  have := dec_digits (u + 1) u (by omega) 45 (by rw [e]; simp)
  exact absurd this (by decide)
theorem number_f (a : ByteArray) (hs : a.size ≤ 140737488355328) : ∃ k v ok, lintelref01_number.f k a = some (v, ok) ∧
    (ok = true → a.toList = itoa v ∧ -9223372036854775808 ≤ v ∧ v ≤ 9223372036854775807) ∧
    (ok = false → ∀ n : Int, -9223372036854775808 ≤ n → n ≤ 9223372036854775807 → a.toList ≠ itoa n) := by
  have hl := size_toList a
  by_cases hm : a.toList.head? = some 45
  · obtain ⟨r, hr⟩ : ∃ r, a.toList = 45 :: r := by
      cases h : a.toList with
      | nil => rw [h] at hm; simp at hm
      | cons c r => rw [h] at hm; exact ⟨r, by simpa using hm⟩
    have hp : 0 < a.size := by rw [← hl, hr]; simp
    have hb : bt a 0 = 45 := bt_list (i := 0) (by rw [hr]; rfl)
    obtain ⟨k, v, ok, hk, h1, h2⟩ := num_tail (a.extract 1 a.size) true
    have hx : (a.extract 1 a.size).toList = r := by
      rw [extract_toList, ← toList_eq, hr]
      simp only [List.drop_succ_cons, List.drop_zero]
      exact List.take_of_length_le (by have := congrArg List.length hr; simp at this; omega)
    rw [hx] at h1 h2
    refine ⟨k + 1, v, ok, ?_, fun ho => ?_, fun ho n h0 h9 e => ?_⟩
    · unfold lintelref01_number.f
      rw [if_pos (by omega), if_pos (by omega), hb, lintelref01_number.j0, if_pos (by decide), if_pos (by omega)]
      exact hk
    · obtain ⟨u, e, h3, _⟩ := h1 ho
      obtain ⟨h4, h5, rfl⟩ := h3 rfl
      refine ⟨?_, by omega, by omega⟩
      unfold itoa
      rw [if_pos (by omega), hr, e]
      congr 2
      omega
    · unfold itoa at e
      split at e
      · rw [hr] at e
        refine h2 ho n.natAbs (fun _ => by omega) (fun h => (nomatch h)) ?_
        simpa using e
      · rw [hr] at e
        exact dec_no_minus _ _ e.symm
  · obtain ⟨k, v, ok, hk, h1, h2⟩ := num_tail a false
    refine ⟨k + 1, v, ok, ?_, fun ho => ?_, fun ho n h0 h9 e => ?_⟩
    · unfold lintelref01_number.f
      have hj : lintelref01_number.j0 (k + 1) a false = some (v, ok) := by
        rw [lintelref01_number.j0, if_neg (by decide)]
        exact hk
      by_cases hp : 0 < a.size
      · rw [if_pos (by omega), if_pos (by omega)]
        have hb : (bt a 0 == 45) = false := by
          cases h : a.toList with
          | nil => rw [h] at hl; simp at hl; omega
          | cons c r =>
            have hb : bt a 0 = (c.toNat : Int) := bt_list (i := 0) (by rw [h]; rfl)
            rw [hb]
            rw [h] at hm
            simp only [List.head?_cons, Option.some.injEq] at hm
            have : c.toNat ≠ 45 := fun e => hm (UInt8.toNat_inj.1 e)
            simp
            omega
        rw [hb]
        exact hj
      · rw [if_neg (by omega)]
        exact hj
    · obtain ⟨u, e, _, h3⟩ := h1 ho
      obtain ⟨h4, rfl⟩ := h3 rfl
      refine ⟨?_, by omega, by omega⟩
      unfold itoa
      rw [if_neg (by omega), e]
      simp
    · unfold itoa at e
      split at e
      · rw [e] at hm; simp at hm
      · exact h2 ho n.toNat (fun h => (nomatch h)) (fun _ => by omega) e
theorem text_loop (a : ByteArray) (hs : a.size ≤ 140737488351232) : ∀ (d : Nat) (m p acc : List UInt8) (k : Nat), m.length ≤ d → a.toList = p ++ (m ++ [39]) → acc.length ≤ p.length → 0 < p.length → m.length < k →
    lintelref01_text.l0 k a (numsL acc) (p.length : Int) = some (match unq m with | none => (ba [], false) | some t => (ba (acc ++ t), decide ((acc ++ t).length ≤ 64)))
  | 0, m, p, acc, k, hd, ha, hacc, hp, hk => by
    obtain ⟨k, rfl⟩ : ∃ m, k = m + 1 := ⟨k - 1, by omega⟩
    have hl := size_toList a
    obtain rfl : m = [] := List.length_eq_zero_iff.1 (by omega)
    have hz : a.size = p.length + 1 := by rw [← hl, ha]; simp
    rw [lintelref01_text.l0, w64 _ (by omega) (by omega), if_neg (by omega), strOfNums_numsL]
    simp [unq, numsL]
    omega
  | d + 1, m, p, acc, k, hd, ha, hacc, hp, hk => by
    obtain ⟨k, rfl⟩ : ∃ m, k = m + 1 := ⟨k - 1, by omega⟩
    have hl := size_toList a
    have hz : a.size = p.length + m.length + 1 := by rw [← hl, ha]; simp; omega
    cases m with
    | nil =>
      simp at hz
      rw [lintelref01_text.l0, w64 _ (by omega) (by omega), if_neg (by omega), strOfNums_numsL]
      simp [unq, numsL]
      omega
    | cons c r =>
      simp only [List.length_cons] at hz hd hk
      have hc : a.toList[p.length]? = some c := by
        rw [ha, List.getElem?_append_right (Nat.le_refl _)]; simp
      have hnl : ∀ l : List UInt8, (numsL l).length = l.length := fun l => by simp [numsL]
      rw [lintelref01_text.l0, w64 ((a.size : Int) - 1) (by omega) (by omega), if_pos (by omega), if_pos (by omega), if_pos (by omega), bt_list hc]
      have hw : wrap64 ((p.length : Int) + 1) = ((p.length + 1 : Nat) : Int) := by rw [w64 _ (by omega) (by omega)]; omega
      rw [hw]
      by_cases h39 : c = 39
      · subst h39
        rw [if_pos (by rfl)]
        cases r with
        | nil =>
          simp at hz
          rw [if_pos (by omega)]
          simp [unq, ba]
        | cons e r =>
          simp only [List.length_cons] at hz hd hk
          have he : a.toList[p.length + 1]? = some e := by
            rw [ha, List.getElem?_append_right (by omega)]
            simp
          rw [if_neg (by omega), if_pos (by omega), if_pos (by omega), bt_list he]
          have hw2 : wrap64 (((p.length + 1 : Nat) : Int) + 1) = ((p.length + 2 : Nat) : Int) := by rw [w64 _ (by omega) (by omega)]; omega
          by_cases h2 : e = 39
          · subst h2
            rw [if_pos (by rfl), if_pos (by rw [hnl]; omega), hw2]
            have ih := text_loop a hs d r (p ++ [39, 39]) (acc ++ [39]) k (by omega) (by rw [ha]; simp) (by simp; omega) (by simp) (by omega)
            have e1 : numsL (acc ++ [39]) = numsL acc ++ [(((39 : UInt8).toNat : Nat) : Int)] := by simp [numsL]
            have e2 : (p ++ [39, 39]).length = p.length + 2 := by simp
            rw [e1, e2] at ih
            rw [ih]
            simp only [unq, if_true]
            cases unq r <;> simp
          · rw [if_neg (by intro h; exact h2 (UInt8.toNat_inj.1 (by have : (39 : UInt8).toNat = 39 := rfl; omega)))]
            simp [unq, h2, ba]
      · rw [if_neg (by intro h; exact h39 (UInt8.toNat_inj.1 (by have : (39 : UInt8).toNat = 39 := rfl; omega))), if_pos (by rw [hnl]; omega)]
        have ih := text_loop a hs d r (p ++ [c]) (acc ++ [c]) k (by omega) (by rw [ha]; simp) (by simp; omega) (by simp) (by omega)
        have e1 : numsL (acc ++ [c]) = numsL acc ++ [((c.toNat : Nat) : Int)] := by simp [numsL]
        have e2 : (p ++ [c]).length = p.length + 1 := by simp
        rw [e1, e2] at ih
        rw [ih]
        cases r with
        | nil => simp [unq, h39]
        | cons e r =>
          simp only [unq, if_neg h39]
          generalize unq (e :: r) = o
          cases o <;> simp
theorem quote_two (t : List UInt8) : ∃ m, quote t = [39] ++ (m ++ [39]) ∧ m = dbl t := ⟨dbl t, rfl, rfl⟩
theorem text_f (a : ByteArray) (hs : a.size ≤ 140737488351232) : ∃ k t ok, lintelref01_text.f k a = some (ba t, ok) ∧
    (ok = true → a.toList = quote t ∧ t.length ≤ 64) ∧ (ok = false → ∀ t, t.length ≤ 64 → a.toList ≠ quote t) := by
  have hl := size_toList a
  have hj : ∀ k, lintelref01_text.j0 (k + 1) a true = some (ba [], false) := fun k => by rw [lintelref01_text.j0, if_pos rfl]; rfl
  by_cases h2 : a.size < 2
  · refine ⟨1, [], false, ?_, fun h => (nomatch h), fun _ t _ e => ?_⟩
    · unfold lintelref01_text.f
      rw [if_pos (by omega)]
      exact hj 0
    · have := congrArg List.length e
      simp [quote] at this
      omega
  · have hw : wrap64 ((a.size : Int) - 1) = ((a.size - 1 : Nat) : Int) := by rw [w64 _ (by omega) (by omega)]; omega
    cases hh : a.toList with
    | nil => rw [hh] at hl; simp at hl; omega
    | cons c r =>
      have hrl : r.length + 1 = a.size := by rw [← hl, hh]; simp
      have hb : bt a 0 = (c.toNat : Int) := bt_list (i := 0) (by rw [hh]; rfl)
      by_cases hc : c = 39
      · subst hc
        have hne : r ≠ [] := fun e => by rw [e] at hrl; simp at hrl; omega
        obtain ⟨m, d, rfl⟩ : ∃ m d, r = m ++ [d] := ⟨r.dropLast, r.getLast hne, (List.dropLast_concat_getLast hne).symm⟩
        have hml : m.length + 2 = a.size := by simp at hrl; omega
        have hlast : a.toList[a.size - 1]? = some d := by
          have e : a.size - 1 = m.length + 1 := by omega
          rw [hh, e]
          simp
        have hbl : bt a ((a.size - 1 : Nat) : Int) = (d.toNat : Int) := bt_list hlast
        by_cases hd : d = 39
        · subst hd
          have hlp := text_loop a hs m.length m [39] [] (m.length + 1) (Nat.le_refl _) (by rw [hh]; rfl) (by simp) (by simp) (by omega)
          refine ⟨m.length + 2, (unq m).getD [], (match unq m with | none => false | some t => decide (t.length ≤ 64)), ?_, ?_, ?_⟩
          · unfold lintelref01_text.f
            rw [if_neg (by omega), if_pos (by omega), hb, if_pos (by rfl), hw, if_pos (by omega), if_pos (by omega), hbl]
            rw [lintelref01_text.j0, if_neg (by decide)]
            have e0 : numsL [] = ([] : List Int) := rfl
            rw [e0] at hlp
            have e1 : (([39] : List UInt8).length : Int) = 1 := rfl
            rw [e1] at hlp
            rw [hlp]
            cases unq m <;> simp
          · intro ho
            cases hu : unq m with
            | none => rw [hu] at ho; cases ho
            | some t =>
              rw [hu] at ho
              refine ⟨?_, by simpa using ho⟩
              have := dbl_unq m t hu
              subst this
              rfl
          · intro ho t ht e
            have hm : m = dbl t := by simpa [quote] using e
            subst hm
            rw [unq_dbl] at ho
            simp at ho
            omega
        · refine ⟨1, [], false, ?_, fun h => (nomatch h), fun _ t _ e => ?_⟩
          · unfold lintelref01_text.f
            rw [if_neg (by omega), if_pos (by omega), hb, if_pos (by rfl), hw, if_pos (by omega), if_pos (by omega), hbl]
            have : ((d.toNat : Int) != 39) = true := by
              have : d.toNat ≠ 39 := fun e => hd (UInt8.toNat_inj.1 e)
              simp
              omega
            rw [this]
            exact hj 0
          · have e1 : m ++ [d] = dbl t ++ [39] := by simpa [quote] using e
            have e2 := congrArg List.getLast? e1
            simp at e2
            exact hd e2
      · refine ⟨1, [], false, ?_, fun h => (nomatch h), fun _ t _ e => ?_⟩
        · unfold lintelref01_text.f
          rw [if_neg (by omega), if_pos (by omega), hb, if_neg (by intro h; exact hc (UInt8.toNat_inj.1 (by have : (39 : UInt8).toNat = 39 := rfl; omega)))]
          exact hj 0
        · simp [quote] at e
          exact hc e.1
/-- What is read of a text. -/
def readV (l : List UInt8) : Int × Int × List UInt8 × Int :=
  if l = [110, 117, 108, 108] then (0, 0, [], 0)
  else if hasPrefix l [39] then
    (if (replaceAll (trimSuffix l.tail [39]) [39, 39] [39]).length ≤ 64 ∧ quote (replaceAll (trimSuffix l.tail [39]) [39, 39] [39]) = l then (2, 0, replaceAll (trimSuffix l.tail [39]) [39, 39] [39], 0) else (0, 0, [], 10))
  else match parseIntB 64 l with
    | .ok n => if itoa n = l then (1, n, [], 0) else (0, 0, [], 10)
    | _ => (0, 0, [], 10)
theorem prefix_quote (t : List UInt8) : hasPrefix (quote t) [39] = true := by simp [hasPrefix, quote]
theorem readV_quote (t : List UInt8) (h : t.length ≤ 64) : readV (quote t) = (2, 0, t, 0) := by
  have h0 : quote t ≠ [110, 117, 108, 108] := by simp [quote]
  have ht : (quote t).tail = dbl t ++ [39] := rfl
  unfold readV
  rw [if_neg h0, if_pos (prefix_quote t), ht, trim_dbl, replaceAll_dbl, if_pos ⟨h, rfl⟩]
theorem itoa_head (n : Int) : ∃ c r, itoa n = c :: r ∧ (c = 45 ∨ isDig c = true) := by
  unfold itoa
  split
  · exact ⟨45, _, rfl, .inl rfl⟩
  · cases h : decDigits n.toNat with
    | nil => exact absurd h (decDigits_ne _)
    | cons c r => exact ⟨c, r, rfl, .inr (dec_digits (n.toNat + 1) n.toNat (by omega) c (by rw [h]; simp))⟩
theorem readV_itoa (n : Int) (h0 : -9223372036854775808 ≤ n) (h1 : n ≤ 9223372036854775807) : readV (itoa n) = (1, n, [], 0) := by
  obtain ⟨c, r, e, hc⟩ := itoa_head n
  have hn : itoa n ≠ [110, 117, 108, 108] := by
    rw [e]
    intro h
    obtain rfl : c = 110 := by simpa using congrArg List.head? h
    rcases hc with h | h <;> exact absurd h (by decide)
  have hp : hasPrefix (itoa n) [39] = false := by
    rw [e]
    simp only [hasPrefix, List.isPrefixOf]
    have : ((39 : UInt8) == c) = false := by
      rcases hc with h | h
      · subst h; decide
      · simp
        intro h'
        subst h'
        exact absurd h (by decide)
    rw [this]; rfl
  unfold readV
  rw [if_neg hn, hp, if_neg (by decide), parseInt_itoa n h0 h1]
  simp
theorem readV_none (l : List UInt8) (h0 : l ≠ [110, 117, 108, 108]) (h1 : ∀ n : Int, -9223372036854775808 ≤ n → n ≤ 9223372036854775807 → l ≠ itoa n) (h2 : ∀ t : List UInt8, t.length ≤ 64 → l ≠ quote t) : readV l = (0, 0, [], 10) := by
  unfold readV
  rw [if_neg h0]
  split
  · rw [if_neg]
    rintro ⟨h3, h4⟩
    exact h2 _ h3 h4.symm
  · cases hp : parseIntB 64 l with
    | ok n =>
      simp only
      rw [if_neg]
      intro e
      have := parseIntB_bounds hp
      exact h1 n (by have : ((2 ^ (64 - 1) : Nat) : Int) = 9223372036854775808 := by decide
                     omega) (by have : ((2 ^ (64 - 1) : Nat) : Int) = 9223372036854775808 := by decide
                                omega) e.symm
    | _ => rfl
theorem read_f (a : ByteArray) (hs : a.size ≤ 140737488351232) : ∃ k, lintelref01_Read.f k a = some ((readV a.toList).1, (readV a.toList).2.1, ba (readV a.toList).2.2.1, (readV a.toList).2.2.2) := by
  by_cases h0 : a.toList = [110, 117, 108, 108]
  · refine ⟨0, ?_⟩
    unfold lintelref01_Read.f
    rw [if_pos h0, h0]
    rfl
  · obtain ⟨k1, v, ok, e1, t1, f1⟩ := number_f a (by omega)
    obtain ⟨k2, t, ok2, e2, t2, f2⟩ := text_f a hs
    have e1' := at_rounds (lintelref01_number.mono a) (Nat.le_max_left k1 k2) e1
    have e2' := at_rounds (lintelref01_text.mono a) (Nat.le_max_right k1 k2) e2
    refine ⟨max k1 k2, ?_⟩
    unfold lintelref01_Read.f
    rw [if_neg h0, e1']
    simp only [Option.bind_some]
    cases ok with
    | true =>
      obtain ⟨h3, h4, h5⟩ := t1 rfl
      rw [h3, readV_itoa v h4 h5]
      rfl
    | false =>
      rw [if_neg (by decide), e2']
      simp only [Option.bind_some]
      cases ok2 with
      | true =>
        obtain ⟨h3, h4⟩ := t2 rfl
        rw [h3, readV_quote t h4]
        rfl
      | false => rw [readV_none _ h0 (f1 rfl) (f2 rfl)]; rfl
end Go.Proofs.YtnejbilnhebphaaDoor.Val
