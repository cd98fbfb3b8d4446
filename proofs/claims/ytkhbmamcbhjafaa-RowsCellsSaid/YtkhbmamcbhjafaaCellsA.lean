/- Joined of: CellsPa CellsEa CellsK. -/
import Derived.Test.YtkhbmamcbhjafaaKeysAll
import Derived.Test.YtkhbmamcbhjafaaPRefx6
import Derived.Test.YtkhbmamcbhjafaaPRefx7
import Derived.Test.YtkhbmamcbhjafaaKeysK
section
/- The bytes of cells: what putting them wants. Plain Lean. -/
namespace Go.Proofs.Ytkhbmamcbhjafaa.Keys
open Go.Proofs.Ytkhbmamcbhjafaa.Str Go.Proofs.Ytkhbmamcbhjafaa.PRef Go.Proofs.Ytkhbmamcbhjafaa.Stands
set_option linter.unusedVariables false
set_option linter.unusedSimpArgs false
abbrev C := S73
def numV (n : Int) : V := ⟨1, n, ⟨#[]⟩⟩
theorem numV_right (n : Int) : rightV (numV n) = true := by
  unfold rightV numV
  rw [if_neg (by show ¬ (1 : Int) = 0; omega), if_pos rfl, decide_eq_true (mk_toList [])]
/-- A number's value is what its kind says. -/
theorem numV_of (v : V) (h : rightV v = true) (k : v.f0 = 1) : v = numV v.f1 := v_ext _ _ k rfl (ext _ _ ((right_int h k).trans (mk_toList []).symm))
def pair (c : C) : List V := [numV c.f0, c.f1]
def chunk (c : C) : List UInt8 := UInt8.ofNat (encL (pair c)).length :: encL (pair c)
def putL : List C → List UInt8
  | [] => []
  | c :: l => chunk c ++ putL l
theorem putL_app : ∀ a b : List C, putL (a ++ b) = putL a ++ putL b
  | [], _ => rfl
  | c :: a, b => by simp only [List.cons_append, putL, putL_app a b, List.append_assoc]
/-- May the cells be, behind a number? -/
def okC : Int → List C → Bool
  | _, [] => true
  | last, c :: l => decide (last < c.f0) && rightV c.f1 && okC c.f0 l
def lastC : Int → List C → Int
  | last, [] => last
  | _, c :: l => lastC c.f0 l
theorem okC_app : ∀ (l m : List C) (last : Int), okC last (l ++ m) = (okC last l && okC (lastC last l) m)
  | [], m, last => by simp [okC, lastC]
  | c :: l, m, last => by simp only [List.cons_append, okC, lastC, okC_app l m, Bool.and_assoc]
theorem lastC_snoc (c : C) : ∀ (l : List C) (last : Int), lastC last (l ++ [c]) = c.f0
  | [], _ => rfl
  | x :: l, _ => lastC_snoc c l x.f0
/-- All of it 64 bits. -/
def C64 (l : List C) : Prop := ∀ c ∈ l, In64 c.f0 ∧ In64 c.f1.f1
theorem c64_cons {c : C} {l : List C} (h : C64 (c :: l)) : In64 c.f0 ∧ In64 c.f1.f1 ∧ C64 l := ⟨(h c (by simp)).1, (h c (by simp)).2, fun x hx => h x (by simp [hx])⟩
theorem pair_good {c : C} (h : rightV c.f1 = true) (h0 : In64 c.f0) (h1 : In64 c.f1.f1) : Good (pair c) := by
  intro v hv
  simp only [pair, List.mem_cons, List.not_mem_nil, or_false] at hv
  rcases hv with rfl | rfl
  · exact ⟨numV_right _, h0⟩
  · exact ⟨h, h1⟩
theorem pair_length {c : C} (h : rightV c.f1 = true) : (encL (pair c)).length ≤ 140 := by
  have h1 := enc_length c.f1 h
  have h2 : (enc (numV c.f0)).length = 9 := by simp [enc, tail, numV, be_length]
  simp only [pair, encL, List.append_nil, List.length_append]
  omega
theorem pair_n64 {c : C} (h0 : In64 c.f0) (h1 : In64 c.f1.f1) : N64 (pair c) := by
  intro v hv
  simp only [pair, List.mem_cons, List.not_mem_nil, or_false] at hv
  rcases hv with rfl | rfl
  · exact h0
  · exact h1
theorem pair_encode {c : C} (h : rightV c.f1 = true) : encode (pair c) = (⟨(encL (pair c)).toArray⟩, 0) := by
  unfold encode
  rw [if_neg (by simp [pair]), if_pos (by simp [pair, numV_right, h])]
def put (l : List C) : ByteArray × Int := if okC 0 l = true then (⟨(putL l).toArray⟩, 0) else (⟨#[]⟩, 100)
/-- The cells of a row's bytes. -/
theorem putL_len : ∀ l : List C, l.length ≤ (putL l).length
  | [] => by simp [putL]
  | c :: l => by
    have := putL_len l
    simp only [putL, List.length_append, List.length_cons, chunk]
    omega
theorem put_code (l : List C) : ∃ s e, put l = (s, e) ∧ (e = 0 ∨ e = 100) := by
  unfold put
  by_cases h : okC 0 l = true
  · rw [if_pos h]; exact ⟨_, _, rfl, .inl rfl⟩
  · rw [if_neg h]; exact ⟨_, _, rfl, .inr rfl⟩
end Go.Proofs.Ytkhbmamcbhjafaa.Keys
end
section
/- rows.Put: what the printed function computes. -/
namespace Go.Proofs.Ytkhbmamcbhjafaa.Keys
open Go.RowKit Go.Proofs.YtkhbmamcbhjafaaW.PrintWords Go.Proofs.YtkhbmamcbhjafaaW.PrintLast Go.Proofs.YtkhbmamcbhjafaaW.PrintMore Go.Proofs.Ytkhbmamcbhjafaa.Str Go.Proofs.Ytkhbmamcbhjafaa.PRef Go.Proofs.Ytkhbmamcbhjafaa.Stands
set_option linter.unusedVariables false
set_option linter.unusedSimpArgs false
theorem rdc (l : List C) (i : Nat) (h : i < l.length) : rd_T73 l (i : Int) = l[i] := by
  show l.getD i _ = _
  rw [List.getD_eq_getElem?_getD, List.getElem?_eq_getElem h]; rfl
theorem putL_le : ∀ (l : List C) (last : Int), okC last l = true → (putL l).length ≤ 141 * l.length
  | [], _, _ => by simp [putL]
  | c :: l, last, h => by
    simp only [okC, Bool.and_eq_true, decide_eq_true_eq] at h
    have h1 := pair_length h.1.2
    have h2 := putL_le l c.f0 h.2
    simp only [putL, List.length_append, List.length_cons, chunk]
    omega
theorem str_one (n : Nat) : strOfNums [((n : Int)) % 256] = ⟨[UInt8.ofNat n].toArray⟩ := by
  rw [← str_ints]
  simp only [ints, List.map_cons, List.map_nil, UInt8.toNat_ofNat']
  rfl
theorem take_snoc (l : List C) (i : Nat) (h : i < l.length) : l.take (i + 1) = l.take i ++ [l[i]] := by rw [List.take_succ_eq_append_getElem h]
theorem okC_take (l : List C) (i : Nat) (h : i < l.length) (ho : okC 0 (l.take i) = true) : okC 0 (l.take (i + 1)) = (decide (lastC 0 (l.take i) < l[i].f0) && rightV l[i].f1) := by
  rw [take_snoc l i h, okC_app, ho]
  simp [okC]
theorem okC_bad (l : List C) (i : Nat) (h : okC 0 (l.take i) = false) : okC 0 l = false := by
  have := okC_app (l.take i) (l.drop i) 0
  rw [List.take_append_drop, h] at this
  rw [this]; rfl
theorem encode_pair (c : C) : encode (pair c) = (if rightV c.f1 = true then (⟨(encL (pair c)).toArray⟩, 0) else (⟨#[]⟩, 10)) := by
  unfold encode
  rw [if_neg (by simp [pair])]
  by_cases h : rightV c.f1 = true
  · rw [if_pos (by simp [pair, numV_right, h]), if_pos h]
  · rw [if_neg (by simp [pair, numV_right, h]), if_neg h]
theorem put_step (l : List C) (i : Nat) (h : i < l.length) : (⟨(putL (l.take i)).toArray⟩ : ByteArray) ++ ((⟨[UInt8.ofNat (encL (pair l[i])).length].toArray⟩ : ByteArray) ++ ⟨(encL (pair l[i])).toArray⟩) = ⟨(putL (l.take (i + 1))).toArray⟩ := by
  rw [mk_app, mk_app, take_snoc l i h, putL_app]
  simp [putL, chunk]
theorem put_bad (l : List C) (i : Nat) (h : i < l.length) (ho : okC 0 (l.take i) = true) (hb : ¬ (lastC 0 (l.take i) < l[i].f0 ∧ rightV l[i].f1 = true)) : put l = (⟨#[]⟩, 100) := by
  unfold put
  rw [if_neg]
  rw [okC_bad l (i + 1) (by rw [okC_take l i h ho]; simpa using hb)]
  decide
theorem rows_put_l0 (l : List C) (h6 : C64 l) (hl : l.length * 40 ≤ 140737488351232) : ∀ (d i k : Nat), l.length - i = d → i ≤ l.length → d + 310 ≤ k → okC 0 (l.take i) = true →
    rows_Put.l0 k ⟨(putL (l.take i)).toArray⟩ (lastC 0 (l.take i)) l (l.length : Int) (i : Int) = some (put l) := by
  intro d
  induction d with
  | zero =>
    intro i k hd hi hk ho
    obtain ⟨k, rfl⟩ : ∃ m, k = m + 1 := ⟨k - 1, by omega⟩
    have e : l.take i = l := List.take_of_length_le (by omega)
    rw [e] at ho ⊢
    simp only [rows_Put.l0]
    rw [if_neg (by omega)]
    unfold put
    rw [if_pos ho]
  | succ d ih =>
    intro i k hd hi hk ho
    obtain ⟨k, rfl⟩ : ∃ m, k = m + 1 := ⟨k - 1, by omega⟩
    have hlt : i < l.length := by omega
    have hle := putL_le (l.take i) 0 ho
    have hlt2 : (l.take i).length ≤ i := List.length_take_le _ _
    have hw : wrap64 ((i : Int) + 1) = ((i + 1 : Nat) : Int) := by unfold wrap64; omega
    have h64 := h6 l[i] (List.getElem_mem hlt)
    have ih' := ih (i + 1) k (by omega) (by omega) (by omega)
    simp only [rows_Put.l0, rows_num.f]
    rw [if_pos (show (i : Int) < (l.length : Int) by omega), if_pos (show 0 ≤ (i : Int) by omega), if_pos (show (i : Int) < (l.length : Int) by omega), rdc l i hlt]
    simp only [Option.bind_some]
    have hp : ([(⟨1, l[i].f0, ⟨#[]⟩⟩ : V), (⟨l[i].f1.f0, l[i].f1.f1, l[i].f1.f2⟩ : V)] : List V) = pair l[i] := rfl
    rw [hp, encode_eq _ (pair_n64 h64.1 h64.2) k (by omega), encode_pair]
    by_cases hr : rightV l[i].f1 = true
    · have hpl := pair_length hr
      rw [if_pos hr]
      simp only [Option.bind_some]
      rw [if_pos trivial]
      by_cases hlast : lastC 0 (l.take i) < l[i].f0
      · rw [if_neg (show ¬ l[i].f0 ≤ lastC 0 (l.take i) by omega), mk_size (encL (pair l[i])), str_one, hw, if_pos (by rw [mk_size]; simp; omega), if_pos (by rw [mk_app, mk_size, mk_size]; simp; omega), put_step l i hlt]
        have h1 := ih' (by rw [okC_take l i hlt ho]; simp [hlast, hr])
        rw [show lastC 0 (l.take (i + 1)) = l[i].f0 by rw [take_snoc l i hlt, lastC_snoc]] at h1
        exact h1
      · rw [if_pos (show l[i].f0 ≤ lastC 0 (l.take i) by omega), put_bad l i hlt ho (fun h => hlast h.1)]
    · rw [if_neg hr]
      simp only [Option.bind_some]
      rw [if_neg (by omega), put_bad l i hlt ho (fun h => hr h.2)]
theorem rows_put_eq (l : List C) (h6 : C64 l) (hl : l.length * 40 ≤ 140737488351232) (k : Nat) (hk : l.length + 310 ≤ k) : rows_Put.f k l = some (put l) := by
  have := rows_put_l0 l h6 hl l.length 0 k (by omega) (by omega) hk (by simp [okC])
  simpa [rows_Put.f, putL, lastC] using this
theorem lastC_take (l : List C) (i : Nat) (h : i < l.length) (hi : 0 < i) : lastC 0 (l.take i) = (l[i - 1]'(by omega)).f0 := by
  obtain ⟨j, rfl⟩ : ∃ j, i = j + 1 := ⟨i - 1, by omega⟩
  rw [take_snoc l j (by omega), lastC_snoc]
  rfl
end Go.Proofs.Ytkhbmamcbhjafaa.Keys
end
section
/- A cell as a kind. -/
namespace Go.Proofs.Ytkhbmamcbhjafaa.Keys
open Go.RowKit Go.Proofs.YtkhbmamcbhjafaaW.PrintWords Go.Proofs.Ytkhbmamcbhjafaa.PRef Go.Proofs.Ytkhbmamcbhjafaa.Sl
abbrev kC := k73
theorem infoC : (Try.prog.info? 73).map (fun i => (i.zero, i.size, i.bytes)) = some (some (.agg #[.int .i64 0, .int .i64 0, .int .i64 0, .string ⟨#[]⟩]), 4, 40) := by kernel_rfl
theorem flatC : Flat kC := fun w b x cs h => by
  obtain rfl := k73_open h
  exact k73_mkM _ _ _ _
end Go.Proofs.Ytkhbmamcbhjafaa.Keys
end
