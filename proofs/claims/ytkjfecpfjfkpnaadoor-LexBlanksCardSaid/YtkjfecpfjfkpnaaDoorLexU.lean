/- Layer 17: a text as the document writes it (over the printed functions). -/
import Derived.Test.YtkjfecpfjfkpnaaDoorPRefx1
import Derived.Test.YtkjfecpfjfkpnaaDoorLexT
import Derived.Test.YtkjfecpfjfkpnaaDoorLexR
namespace Go.Proofs.YtkjfecpfjfkpnaaDoor.Lex
open Go.RowKit Go.Proofs.YtkjfecpfjfkpnaaDoorW.PrintWords Go.Proofs.YtkjfecpfjfkpnaaDoorW.PrintLast Go.Proofs.YtkjfecpfjfkpnaaDoorW.PrintMore Go.Proofs.YtkjfecpfjfkpnaaDoor.Str Go.Proofs.YtkjfecpfjfkpnaaDoor.PRef
open Go.Proofs.YtkjfecpfjfkpnaaDoor.Val (dbl quote)
open Go.Proofs.YtkjfecpfjfkpnaaDoor
set_option linter.unusedVariables false
set_option linter.unusedSimpArgs false
theorem bt_list {a : ByteArray} {i : Nat} {c : UInt8} (h : a.toList[i]? = some c) : bt a (i : Int) = (c.toNat : Int) := by
  obtain ⟨hi, he⟩ := List.getElem?_eq_some_iff.1 h
  have hi' : i < a.size := by rw [← size_toList]; exact hi
  unfold bt
  rw [dif_pos (by simpa using hi')]
  have : a[i] = c := by
    rw [← he]
    simp only [toList_eq]
    rfl
  simp only [Int.toNat_natCast, this]
theorem w64 (n : Int) (h0 : -9223372036854775808 ≤ n) (h1 : n ≤ 9223372036854775807) : wrap64 n = n := by unfold wrap64; omega
theorem dbl_snoc' (t : List UInt8) (c : UInt8) : dbl (t ++ [c]) = dbl t ++ (if c = 39 then [39, 39] else [c]) := Go.Proofs.YtkjfecpfjfkpnaaDoor.Val.dbl_snoc t c
theorem print_loop (s : ByteArray) (kd n : Int) (hs : s.size ≤ 64) : ∀ (d i k : Nat), s.size - i = d → i ≤ s.size → d < k →
    lintelref01_Print.l0 k (numsL (39 :: dbl (s.toList.take i))) (i : Int) kd n s = some (ba (quote s.toList), 0)
  | 0, i, k, hd, hi, hk => by
    obtain ⟨k, rfl⟩ : ∃ m, k = m + 1 := ⟨k - 1, by omega⟩
    have hl : s.toList.take i = s.toList := List.take_of_length_le (by rw [size_toList]; omega)
    have hq := Val.dbl_le s.toList
    rw [size_toList] at hq
    rw [lintelref01_Print.l0, if_neg (by omega), hl, if_pos (by simp [numsL]; omega)]
    have : numsL (39 :: dbl s.toList) ++ [39] = numsL (quote s.toList) := by simp [numsL, quote]
    rw [this, strOfNums_numsL]
  | d + 1, i, k, hd, hi, hk => by
    obtain ⟨k, rfl⟩ : ∃ m, k = m + 1 := ⟨k - 1, by omega⟩
    have hil : i < s.toList.length := by rw [size_toList]; omega
    have hc : s.toList[i]? = some s.toList[i] := List.getElem?_eq_getElem hil
    have hq := Val.dbl_le (s.toList.take i)
    have htl : (s.toList.take i).length ≤ i := List.length_take_le _ _
    have htk : s.toList.take (i + 1) = s.toList.take i ++ [s.toList[i]] := List.take_succ_eq_append_getElem hil
    have ih := print_loop s kd n hs d (i + 1) k (by omega) (by omega) (by omega)
    rw [htk, Val.dbl_snoc] at ih
    have hw : wrap64 ((i : Int) + 1) = ((i + 1 : Nat) : Int) := by rw [w64 _ (by omega) (by omega)]; omega
    rw [lintelref01_Print.l0, if_pos (by omega), if_pos (by omega), bt_list hc, hw]
    by_cases h39 : s.toList[i] = 39
    · rw [if_pos (by rw [h39]; rfl), if_pos (by simp [numsL]; omega)]
      simp only [Option.bind_some]
      rw [if_pos (by simp [numsL]; omega)]
      rw [if_pos h39] at ih
      rw [h39]
      have : numsL (39 :: dbl (s.toList.take i)) ++ [39] ++ [(((39 : UInt8).toNat : Nat) : Int)] = numsL (39 :: (dbl (s.toList.take i) ++ [39, 39])) := by simp [numsL]
      rw [this]
      exact ih
    · rw [if_neg (by intro e; exact h39 (UInt8.toNat_inj.1 (by have : (39 : UInt8).toNat = 39 := rfl; omega))), if_pos (by simp [numsL]; omega)]
      rw [if_neg h39] at ih
      have : numsL (39 :: dbl (s.toList.take i)) ++ [((s.toList[i].toNat : Nat) : Int)] = numsL (39 :: (dbl (s.toList.take i) ++ [s.toList[i]])) := by simp [numsL]
      rw [this]
      exact ih
theorem print_text (s : ByteArray) (hs : s.size ≤ 64) : ∃ k, lintelref01_Print.f k 2 0 s = some (ba (quote s.toList), 0) := by
  refine ⟨s.size + 1, ?_⟩
  have hr : lintelref01_Right.f 2 0 s = some true := by
    unfold lintelref01_Right.f
    rw [if_neg (by decide), if_neg (by decide), if_pos rfl, if_pos rfl, decide_eq_true (by omega)]
  unfold lintelref01_Print.f
  rw [hr]
  simp only [Option.bind_some, if_true]
  rw [if_neg (by decide), if_neg (by decide)]
  have := print_loop s 2 0 hs s.size 0 (s.size + 1) rfl (Nat.zero_le _) (by omega)
  simpa [numsL, dbl] using this
theorem printT_fun (s : ByteArray) (hs : s.size ≤ 64) (w : World) : Calls Tryd.prog 8 #[.agg #[.int .i64 2, .int .i64 0, .string s]] w fun e w' => e = .returned (.tuple #[.string (ba (quote s.toList)), .int .i64 0]) ∧ Below w.heap.size w w' := by
  obtain ⟨k, hk⟩ := print_text s hs
  exact lintelref01_Print.calls k 2 0 s _ _ w hk
/-- How long a word's text is. -/
theorem txtS_tlen : ∀ (r t : List UInt8) (k : Nat), txtS r = some (t, k) → t.length + 1 ≤ k
  | [], t, k, h => by simp [txtS] at h
  | [c], t, k, h => by
    unfold txtS at h
    split at h
    · simp at h; obtain ⟨rfl, rfl⟩ := h; simp
    · cases h
  | c :: d :: r, t, k, h => by
    by_cases hc : c = 39
    · subst hc
      by_cases hd : d = 39
      · subst hd
        simp only [txtS, if_true] at h
        cases hx : txtS r with
        | none => rw [hx] at h; cases h
        | some x =>
          obtain ⟨t', k'⟩ := x
          rw [hx] at h
          have := txtS_tlen r t' k' hx
          simp at h
          obtain ⟨rfl, rfl⟩ := h
          simp
          omega
      · simp only [txtS, if_true, if_neg hd] at h
        simp at h
        obtain ⟨rfl, rfl⟩ := h
        simp
    · rw [txtS_cons' c hc] at h
      cases hx : txtS (d :: r) with
      | none => rw [hx] at h; cases h
      | some x =>
        obtain ⟨t', k'⟩ := x
        rw [hx] at h
        have := txtS_tlen (d :: r) t' k' hx
        simp at h
        obtain ⟨rfl, rfl⟩ := h
        simp
        omega
theorem tok_tlen {c : UInt8} {r : List UInt8} {k : Int} {t : List UInt8} {n : Int} {len : Nat} (h : tok c r = .ok (k, t, n, len)) : t.length ≤ r.length + 1 ∧ (k = 3 → t.length ≤ 64) := by
  have h1 := tok_len h
  obtain ⟨h2, h3⟩ := tok_text h
  by_cases hk : k = 3
  · subst hk
    unfold tok at h
    split at h
    · split at h
      · cases h
      · simp at h
    · split at h
      · split at h
        · cases h
        · split at h
          · simp at h
          · cases h
      · split at h
        · split at h
          · cases h
          · rename_i t' k' hx
            have := txtS_tlen r t' k' hx
            have := txtS_len r t' k' hx
            split at h
            · cases h
            · simp at h
              obtain ⟨rfl, rfl, rfl⟩ := h
              exact ⟨by omega, fun _ => by omega⟩
        · split at h
          · simp at h
          · cases h
  · have := h3 hk
    exact ⟨by omega, fun e => absurd e hk⟩
theorem lex_tlen : ∀ (f off : Nat) (l : List UInt8) (ws : List Wd), lexF f off l = .ok ws → ∀ w ∈ ws, w.t.length ≤ l.length ∧ (w.k = 3 → w.t.length ≤ 64)
  | 0, _, _, _, h => by simp [lexF] at h
  | f + 1, off, l, ws, h => by
    simp only [lexF] at h
    have hdl0 : (l.dropWhile isBl).length ≤ l.length := by rw [runL_drop]; simp
    cases hd : l.dropWhile isBl with
    | nil =>
      rw [hd] at h
      simp at h
      subst h
      intro w hw
      simp at hw
      subst hw
      simp
    | cons c r =>
      rw [hd] at h hdl0
      simp only [List.length_cons] at hdl0
      cases ht : tok c r with
      | error e => simp [ht] at h
      | ok x =>
        obtain ⟨k, t, n, len⟩ := x
        have hl := tok_len ht
        have htl := tok_tlen ht
        simp only [ht] at h
        cases hr : lexF f (off + runL isBl l + len) ((c :: r).drop len) with
        | error e => simp [hr] at h
        | ok ws' =>
          have ih := lex_tlen f _ _ ws' hr
          simp only [hr] at h
          simp at h
          subst h
          intro w hw
          rcases List.mem_cons.1 hw with rfl | hw
          · exact ⟨by simp only; omega, htl.2⟩
          · have := ih w hw
            simp at this
            exact ⟨by omega, this.2⟩
theorem wrt_le (w : Wd) (n : Nat) (h : w.t.length ≤ n) : (wrt w.k w.t).length ≤ 2 * n + 2 := by
  unfold wrt
  split
  · have := Val.dbl_le w.t
    simp [quote]
    omega
  · omega
theorem rend_snoc (pre : List UInt8) (ws : List Wd) (w : Wd) : rend pre (ws ++ [w]) = rend pre ws ++ pre ++ wrt w.k w.t ++ [32] := by simp [rend]
theorem rend_le (pre : List UInt8) (hp : pre.length ≤ 4) (n : Nat) (hn : n ≤ 1024) : ∀ ws : List Wd, (∀ w ∈ ws, w.t.length ≤ n) → (rend pre ws).length ≤ ws.length * 2060
  | [], _ => by simp [rend]
  | w :: ws, h => by
    have ih := rend_le pre hp n hn ws (fun x hx => h x (by simp [hx]))
    have hw := wrt_le w n (h w (by simp))
    have e : rend pre (w :: ws) = pre ++ wrt w.k w.t ++ [32] ++ rend pre ws := by simp [rend]
    rw [e]
    simp
    omega
end Go.Proofs.YtkjfecpfjfkpnaaDoor.Lex
