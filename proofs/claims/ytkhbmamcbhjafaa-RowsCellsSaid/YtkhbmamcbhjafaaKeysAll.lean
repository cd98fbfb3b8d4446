/- Joined of: Str Stands KeysP KeysE KeysF. -/
import Derived.Lib.Strings
import Derived.Sort.Walk0
import Derived.Test.YtkhbmamcbhjafaaPRefx5
import Derived.Test.YtkhbmamcbhjafaaPRefx0
import Derived.Test.YtkhbmamcbhjafaaPRefx2
import Derived.Test.YtkhbmamcbhjafaaPRefx3
import Derived.Laws.BitsAllLaws
import Derived.Lib.LazyBuf
section
/- Texts as lists of bytes, and how they stand to one another. Plain Lean, no program. -/
namespace Go.Proofs.Ytkhbmamcbhjafaa.Str
set_option linter.unusedVariables false
set_option linter.unusedSimpArgs false
/-- How two lists of bytes stand: -1, 0, 1. -/
def cmpL : List UInt8 → List UInt8 → Int
  | [], [] => 0
  | [], _ :: _ => -1
  | _ :: _, [] => 1
  | x :: xs, y :: ys => if x < y then -1 else if y < x then 1 else cmpL xs ys
theorem cmpL_self : ∀ a, cmpL a a = 0
  | [] => rfl
  | x :: xs => by
    have h : ¬ x < x := UInt8.lt_irrefl x
    simp only [cmpL, if_neg h, cmpL_self xs]
theorem cmpL_swap : ∀ a b, cmpL b a = - cmpL a b
  | [], [] => rfl
  | [], _ :: _ => rfl
  | _ :: _, [] => rfl
  | x :: xs, y :: ys => by
    simp only [cmpL]
    by_cases h1 : x < y
    · have h2 : ¬ y < x := fun h => UInt8.lt_irrefl _ (UInt8.lt_trans h h1)
      simp [h1, h2]
    · by_cases h2 : y < x
      · simp [h1, h2]
      · simp [h1, h2, cmpL_swap xs ys]
theorem cmpL_zero : ∀ a b, cmpL a b = 0 → a = b
  | [], [], _ => rfl
  | [], _ :: _, h => by simp [cmpL] at h
  | _ :: _, [], h => by simp [cmpL] at h
  | x :: xs, y :: ys, h => by
    simp only [cmpL] at h
    by_cases h1 : x < y
    · simp [h1] at h
    · by_cases h2 : y < x
      · simp [h1, h2] at h
      · simp only [h1, h2, if_false] at h
        rw [cmpL_zero xs ys h, UInt8.le_antisymm (UInt8.not_lt.1 h2) (UInt8.not_lt.1 h1)]
theorem cmpL_range : ∀ a b, -1 ≤ cmpL a b ∧ cmpL a b ≤ 1
  | [], [] => by simp [cmpL]
  | [], _ :: _ => by simp [cmpL]
  | _ :: _, [] => by simp [cmpL]
  | x :: xs, y :: ys => by
    simp only [cmpL]
    have := cmpL_range xs ys
    repeat' split
    all_goals omega
theorem cmpL_trans : ∀ a b c, cmpL a b ≤ 0 → cmpL b c ≤ 0 → cmpL a c ≤ 0 ∧ (cmpL a c = 0 → cmpL a b = 0 ∧ cmpL b c = 0)
  | [], [], [], _, _ => by simp [cmpL]
  | [], [], _ :: _, _, _ => by simp [cmpL]
  | [], _ :: _, [], _, h => by simp [cmpL] at h
  | [], _ :: _, _ :: _, _, _ => by simp [cmpL]
  | _ :: _, [], _, h, _ => by simp [cmpL] at h
  | _ :: _, _ :: _, [], _, h => by simp [cmpL] at h
  | x :: xs, y :: ys, z :: zs, h1, h2 => by
    simp only [cmpL] at h1 h2 ⊢
    by_cases a1 : x < y
    · by_cases a2 : y < z
      · have := UInt8.lt_trans a1 a2
        simp [this]
      · by_cases a3 : z < y
        · simp [a2, a3] at h2
        · have : y = z := UInt8.le_antisymm (UInt8.not_lt.1 a3) (UInt8.not_lt.1 a2)
          subst this
          simp [a1]
    · by_cases b1 : y < x
      · simp [a1, b1] at h1
      · have : x = y := UInt8.le_antisymm (UInt8.not_lt.1 b1) (UInt8.not_lt.1 a1)
        subst this
        have hx : ¬ x < x := UInt8.lt_irrefl x
        by_cases a2 : x < z
        · simp [a2]
        · by_cases a3 : z < x
          · simp [a2, a3] at h2
          · simp only [hx, a2, a3, if_false] at h1 h2 ⊢
            exact cmpL_trans xs ys zs h1 h2
theorem lt_cmpL : ∀ a b : List UInt8, a < b ↔ cmpL a b < 0
  | [], [] => by simp [cmpL]
  | [], y :: ys => by simp [cmpL]
  | x :: xs, [] => by simp [cmpL]
  | x :: xs, y :: ys => by
    rw [List.cons_lt_cons_iff, lt_cmpL xs ys]
    simp only [cmpL]
    by_cases h1 : x < y
    · simp [h1]
    · by_cases h2 : y < x
      · have : x ≠ y := fun e => by subst e; exact UInt8.lt_irrefl _ h2
        simp [h1, h2, this]
      · have : x = y := UInt8.le_antisymm (UInt8.not_lt.1 h2) (UInt8.not_lt.1 h1)
        simp [h1, h2, this]
/-- Two texts. -/
def cmpS (a b : ByteArray) : Int := cmpL a.toList b.toList
theorem bytesLess_cmp (a b : List UInt8) : Op.bytesLess a b = decide (cmpL a b < 0) := by
  rw [Proofs.bytesLess_eq]
  exact decide_eq_decide.2 (lt_cmpL a b)
theorem beq_cmp (a b : List UInt8) : (a == b) = decide (cmpL a b = 0) := by
  rw [Bool.eq_iff_iff]
  simp only [beq_iff_eq, decide_eq_true_eq]
  exact ⟨fun h => by rw [h]; exact cmpL_self b, cmpL_zero a b⟩
theorem leq_cmp (a b : List UInt8) : (Op.bytesLess a b || a == b) = decide (cmpL a b ≤ 0) := by
  rw [bytesLess_cmp, beq_cmp, Bool.eq_iff_iff]
  simp only [Bool.or_eq_true, decide_eq_true_eq]
  omega
theorem toList_eq (a : ByteArray) : a.toList = a.data.toList := Lib.toList_data a
theorem ext (a b : ByteArray) (h : a.toList = b.toList) : a = b := by
  rw [toList_eq, toList_eq] at h
  cases a with | mk a => cases b with | mk b => simp only [Array.toList_inj] at h; rw [h]
theorem cmpS_self (a : ByteArray) : cmpS a a = 0 := cmpL_self _
theorem cmpS_swap (a b : ByteArray) : cmpS b a = - cmpS a b := cmpL_swap _ _
theorem cmpS_zero (a b : ByteArray) (h : cmpS a b = 0) : a = b := ext _ _ (cmpL_zero _ _ h)
theorem cmpS_range (a b : ByteArray) : -1 ≤ cmpS a b ∧ cmpS a b ≤ 1 := cmpL_range _ _
theorem cmpS_trans (a b c : ByteArray) (h1 : cmpS a b ≤ 0) (h2 : cmpS b c ≤ 0) : cmpS a c ≤ 0 ∧ (cmpS a c = 0 → cmpS a b = 0 ∧ cmpS b c = 0) := cmpL_trans _ _ _ h1 h2
theorem cmpS_empty (a : ByteArray) (h : cmpS a ByteArray.empty ≤ 0) : a = ByteArray.empty := by
  apply ext
  have e : (ByteArray.empty).toList = [] := by rw [toList_eq]; rfl
  unfold cmpS at h
  rw [e] at h ⊢
  cases ha : a.toList with
  | nil => rfl
  | cons x xs => rw [ha] at h; simp [cmpL] at h
end Go.Proofs.Ytkhbmamcbhjafaa.Str
end
section
/- The document's comparison of two texts is cmpS. -/
namespace Go.Proofs.Ytkhbmamcbhjafaa.Stands
open Go.RowKit Go.Proofs.YtkhbmamcbhjafaaW.PrintWords Go.Proofs.YtkhbmamcbhjafaaW.PrintLast Go.Proofs.YtkhbmamcbhjafaaW.PrintMore Go.Proofs.Ytkhbmamcbhjafaa.Str Go.Proofs.Ytkhbmamcbhjafaa.PRef
set_option linter.unusedVariables false
set_option linter.unusedSimpArgs false
theorem size_toList (a : ByteArray) : a.toList.length = a.size := by rw [toList_eq]; rfl
theorem drop_at (a : ByteArray) (i : Nat) (h : i < a.size) : a.toList.drop i = a[i] :: a.toList.drop (i + 1) := by
  have hl : i < a.toList.length := by rw [size_toList]; exact h
  rw [List.drop_eq_getElem_cons hl]
  congr 1
  simp only [toList_eq]
  rfl
theorem drop_end (a : ByteArray) (i : Nat) (h : a.size ≤ i) : a.toList.drop i = [] := List.drop_eq_nil_of_le (by rw [size_toList]; exact h)
theorem bt_nat (a : ByteArray) (i : Nat) (h : i < a.size) : bt a (i : Int) = (a[i].toNat : Int) := by
  unfold bt
  rw [dif_pos (by simpa using h)]
  rfl
theorem wrap_nat (i n : Nat) (hi : i < n) (hn : n ≤ 140737488355328) : wrap64 ((i : Int) + 1) = ((i + 1 : Nat) : Int) := by
  unfold wrap64
  omega
theorem stands_end (a b : ByteArray) (i k : Nat) (hi : ¬ (i < a.size ∧ i < b.size)) (hk : 2 ≤ k) : lintelref01_Stands.l0 k a b (i : Int) = some (if (a.size : Int) < (b.size : Int) then -1 else if (a.size : Int) > (b.size : Int) then 1 else 0) := by
  obtain ⟨k, rfl⟩ : ∃ m, k = m + 2 := ⟨k - 2, by omega⟩
  have hj : ∀ c : Bool, c = false → lintelref01_Stands.j1 (k + 1) a b (i : Int) c = some (if (a.size : Int) < (b.size : Int) then -1 else if (a.size : Int) > (b.size : Int) then 1 else 0) := by
    intro c hc
    subst hc
    simp only [lintelref01_Stands.j1]
    rw [if_neg (by decide)]
    by_cases h1 : (a.size : Int) < (b.size : Int)
    · rw [if_pos h1, if_pos h1]
    · rw [if_neg h1, if_neg h1]
      by_cases h2 : (a.size : Int) > (b.size : Int)
      · rw [if_pos h2, if_pos h2]
      · rw [if_neg h2, if_neg h2]
  simp only [lintelref01_Stands.l0]
  by_cases h : (i : Int) < (a.size : Int)
  · rw [if_pos h]
    exact hj _ (decide_eq_false (by omega))
  · rw [if_neg h]
    exact hj _ rfl
theorem stands_round (a b : ByteArray) (i k : Nat) (ha : a.size ≤ 140737488355328) (hi : i < a.size) (hj : i < b.size) (hk : 2 ≤ k) :
    lintelref01_Stands.l0 k a b (i : Int) = if a[i] < b[i] then some (-1) else if b[i] < a[i] then some 1 else lintelref01_Stands.l0 (k - 2) a b ((i + 1 : Nat) : Int) := by
  obtain ⟨k, rfl⟩ : ∃ m, k = m + 2 := ⟨k - 2, by omega⟩
  simp only [lintelref01_Stands.l0]
  rw [if_pos (by omega), decide_eq_true (by omega)]
  simp only [lintelref01_Stands.j1]
  rw [if_pos trivial, if_pos (by omega), if_pos (by omega), if_pos (by omega), bt_nat a i hi, bt_nat b i hj, wrap_nat i a.size hi ha]
  have e1 : ((a[i].toNat : Int) < (b[i].toNat : Int)) ↔ a[i] < b[i] := by rw [UInt8.lt_iff_toNat_lt]; omega
  have e2 : ((a[i].toNat : Int) > (b[i].toNat : Int)) ↔ b[i] < a[i] := by rw [UInt8.lt_iff_toNat_lt]; omega
  simp only [e1, e2]
  rfl
theorem stands_at (a b : ByteArray) (ha : a.size ≤ 140737488355328) : ∀ (d i k : Nat), a.size - i = d → 2 * d + 1 < k → i ≤ a.size → i ≤ b.size → a.toList.take i = b.toList.take i →
    lintelref01_Stands.l0 k a b (i : Int) = some (cmpL (a.toList.drop i) (b.toList.drop i)) := by
  intro d
  induction d with
  | zero =>
    intro i k hd hk hia hib ht
    rw [stands_end a b i k (by omega) (by omega), drop_end a i (by omega)]
    by_cases hj : i < b.size
    · rw [drop_at b i hj, if_pos (by omega)]; rfl
    · rw [drop_end b i (by omega), if_neg (by omega), if_neg (by omega)]; rfl
  | succ d ih =>
    intro i k hd hk hia hib ht
    by_cases hj : i < b.size
    · rw [stands_round a b i k ha (by omega) hj (by omega), drop_at a i (by omega), drop_at b i hj]
      simp only [cmpL]
      by_cases h1 : a[i] < b[i]
      · rw [if_pos h1, if_pos h1]
      · rw [if_neg h1, if_neg h1]
        by_cases h2 : b[i] < a[i]
        · rw [if_pos h2, if_pos h2]
        · rw [if_neg h2, if_neg h2]
          have e : a[i] = b[i] := UInt8.le_antisymm (UInt8.not_lt.1 h2) (UInt8.not_lt.1 h1)
          refine ih (i + 1) (k - 2) (by omega) (by omega) (by omega) (by omega) ?_
          rw [List.take_add_one, List.take_add_one, ht]
          congr 1
          have := drop_at a i (by omega)
          have h3 := drop_at b i hj
          rw [e] at this
          have q1 : a.toList[i]? = some b[i] := by
            have h4 := List.head?_drop (l := a.toList) (i := i)
            rw [this] at h4; exact h4.symm
          have q2 : b.toList[i]? = some b[i] := by
            have h4 := List.head?_drop (l := b.toList) (i := i)
            rw [h3] at h4; exact h4.symm
          rw [q1, q2]
    · rw [stands_end a b i k (by omega) (by omega), drop_end b i (by omega), drop_at a i (by omega), if_neg (by omega), if_pos (by omega)]; rfl
/-- Of any two texts. -/
theorem stands (a b : ByteArray) (ha : a.size ≤ 140737488355328) (k : Nat) (hk : 2 * a.size + 2 ≤ k) : lintelref01_Stands.f k a b = some (cmpS a b) := by
  have := stands_at a b ha a.size 0 k (by omega) (by omega) (by omega) (by omega) rfl
  simpa [lintelref01_Stands.f, cmpS] using this
/-- The walk's word. -/
theorem stands_calls (a b : ByteArray) (ha : a.size ≤ 140737488355328) (w : World) : Calls Try.prog 37 #[.string a, .string b] w fun e w' => e = .returned (.int .i64 (cmpS a b)) ∧ Drawn0 w w' :=
  lintelref01_Stands.calls _ a b _ w (stands a b ha _ (Nat.le_refl _))
end Go.Proofs.Ytkhbmamcbhjafaa.Stands
end
section
/- Keys of lists of values, as lists of bytes: plain Lean. -/
namespace Go.Proofs.Ytkhbmamcbhjafaa.Keys
open Go.Proofs.Ytkhbmamcbhjafaa.Str Go.Proofs.Ytkhbmamcbhjafaa.PRef
set_option linter.unusedVariables false
set_option linter.unusedSimpArgs false
abbrev V := S36
/-- May a value be? -/
def rightV (v : V) : Bool := if v.f0 = 0 then decide (v.f1 = 0) && decide (v.f2.toList = []) else if v.f0 = 1 then decide (v.f2.toList = []) else decide (v.f0 = 2) && decide (v.f1 = 0) && decide (v.f2.size ≤ 64)
/-- Is a number of 64 bits? -/
def In64 (n : Int) : Prop := -9223372036854775808 ≤ n ∧ n ≤ 9223372036854775807
theorem v_ext (a b : V) (h0 : a.f0 = b.f0) (h1 : a.f1 = b.f1) (h2 : a.f2 = b.f2) : a = b := by
  cases a; cases b; simp only at h0 h1 h2; subst h0; subst h1; subst h2; rfl
instance : DecidableEq V := fun a b => decidable_of_iff (a.f0 = b.f0 ∧ a.f1 = b.f1 ∧ a.f2.toList = b.f2.toList) ⟨fun h => v_ext a b h.1 h.2.1 (ext _ _ h.2.2), fun h => by rw [h]; exact ⟨rfl, rfl, rfl⟩⟩
/-- A number's k last bytes, the greatest first. -/
def be : Nat → Nat → List UInt8
  | 0, _ => []
  | k + 1, u => UInt8.ofNat (u / 256 ^ k % 256) :: be k u
def off (n : Int) : Nat := (n + 9223372036854775808).toNat
def esc : List UInt8 → List UInt8
  | [] => [0, 1]
  | b :: l => if b = 0 then 0 :: 255 :: esc l else b :: esc l
def tail (v : V) : List UInt8 := if v.f0 = 1 then be 8 (off v.f1) else if v.f0 = 2 then esc v.f2.toList else []
def enc (v : V) : List UInt8 := UInt8.ofNat (v.f0 + 1).toNat :: tail v
def encL : List V → List UInt8
  | [] => []
  | v :: l => enc v ++ encL l
theorem be_length : ∀ k u, (be k u).length = k
  | 0, _ => rfl
  | k + 1, u => by simp [be, be_length k u]
theorem ofNat_lt {a b : Nat} (ha : a < 256) (hb : b < 256) : (UInt8.ofNat a < UInt8.ofNat b) ↔ a < b := by
  rw [UInt8.lt_iff_toNat_lt, UInt8.toNat_ofNat', UInt8.toNat_ofNat']
  omega
theorem ofNat_inj {a b : Nat} (ha : a < 256) (hb : b < 256) (h : UInt8.ofNat a = UInt8.ofNat b) : a = b := by
  have := congrArg UInt8.toNat h
  rw [UInt8.toNat_ofNat', UInt8.toNat_ofNat'] at this
  omega
theorem cmpL_cons (x : UInt8) (a b : List UInt8) : cmpL (x :: a) (x :: b) = cmpL a b := by
  have h : ¬ x < x := UInt8.lt_irrefl x
  simp only [cmpL, if_neg h]
theorem cmpL_app : ∀ (s a b : List UInt8), cmpL (s ++ a) (s ++ b) = cmpL a b
  | [], _, _ => rfl
  | x :: s, a, b => by rw [List.cons_append, List.cons_append, cmpL_cons, cmpL_app s a b]
theorem be_cmp (x y : List UInt8) : ∀ k u u', u < 256 ^ k → u' < 256 ^ k → cmpL (be k u ++ x) (be k u' ++ y) = if u = u' then cmpL x y else if u < u' then -1 else 1
  | 0, u, u', h, h' => by
    have : u = u' := by simp at h h'; omega
    rw [if_pos this]; rfl
  | k + 1, u, u', h, h' => by
    rw [Nat.pow_succ] at h h'
    have d1 : u / 256 ^ k < 256 := Nat.div_lt_of_lt_mul h
    have d2 : u' / 256 ^ k < 256 := Nat.div_lt_of_lt_mul h'
    have m1 : u / 256 ^ k % 256 = u / 256 ^ k := Nat.mod_eq_of_lt d1
    have m2 : u' / 256 ^ k % 256 = u' / 256 ^ k := Nat.mod_eq_of_lt d2
    have hp : 0 < 256 ^ k := Nat.pow_pos (by decide)
    have e1 := Nat.div_add_mod u (256 ^ k)
    have e2 := Nat.div_add_mod u' (256 ^ k)
    have r1 := Nat.mod_lt u hp
    have r2 := Nat.mod_lt u' hp
    have hbe : ∀ u, be k u = be k (u % 256 ^ k) := be_mod k
    simp only [be, List.cons_append, m1, m2]
    by_cases hq : u / 256 ^ k = u' / 256 ^ k
    · rw [hq, cmpL_cons, hbe u, hbe u', be_cmp x y k _ _ r1 r2]
      have q1 : (u % 256 ^ k = u' % 256 ^ k) ↔ u = u' := by
        constructor
        · intro h; rw [← e1, ← e2, h, hq]
        · intro h; rw [h]
      have q2 : (u % 256 ^ k < u' % 256 ^ k) ↔ u < u' := by
        rw [hq] at e1
        omega
      by_cases c1 : u = u'
      · rw [if_pos c1, if_pos (q1.2 c1)]
      · rw [if_neg c1, if_neg (fun h => c1 (q1.1 h))]
        by_cases c2 : u < u'
        · rw [if_pos c2, if_pos (q2.2 c2)]
        · rw [if_neg c2, if_neg (fun h => c2 (q2.1 h))]
    · have hne : u ≠ u' := fun h => hq (by rw [h])
      rw [if_neg hne]
      simp only [cmpL, ofNat_lt d1 d2, ofNat_lt d2 d1]
      by_cases c : u / 256 ^ k < u' / 256 ^ k
      · have : u < u' := by
          rcases Nat.lt_or_ge u u' with h1 | h1
          · exact h1
          · have := Nat.div_le_div_right (c := 256 ^ k) h1; omega
        rw [if_pos c, if_pos this]
      · have : ¬ u < u' := fun h1 => by
          have := Nat.div_le_div_right (c := 256 ^ k) (Nat.le_of_lt h1); omega
        rw [if_neg c, if_pos (by omega), if_neg this]
where
  be_mod : ∀ k u, be k u = be k (u % 256 ^ k)
  | 0, _ => rfl
  | k + 1, u => by
    simp only [be]
    have h1 : u % 256 ^ (k + 1) / 256 ^ k % 256 = u / 256 ^ k % 256 := by
      rw [Nat.pow_succ, Nat.mod_mul_right_div_self, Nat.mod_mod]
    have h2 : be k (u % 256 ^ (k + 1)) = be k u := by
      rw [be_mod k (u % 256 ^ (k + 1)), be_mod k u, Nat.pow_succ, Nat.mod_mul_right_mod]
    rw [h1, h2]
theorem u0_lt (c : UInt8) (h : c ≠ 0) : (0 : UInt8) < c := by
  rw [UInt8.lt_iff_toNat_lt]
  have : c.toNat ≠ 0 := fun e => h (UInt8.toNat_inj.1 e)
  show 0 < c.toNat
  omega
theorem u_not_lt0 (c : UInt8) : ¬ c < 0 := by
  rw [UInt8.lt_iff_toNat_lt]
  show ¬ c.toNat < 0
  omega
theorem esc_cmp (x y : List UInt8) : ∀ s t : List UInt8, cmpL (esc s ++ x) (esc t ++ y) = if s = t then cmpL x y else cmpL s t
  | [], [] => by simp [esc, cmpL_cons]
  | [], c :: t => by
    simp only [esc]
    by_cases hc : c = 0
    · subst hc; rw [if_pos rfl, if_neg (by simp)]; rfl
    · rw [if_neg hc, if_neg (by simp)]
      simp only [List.cons_append, cmpL, if_pos (u0_lt c hc)]
  | b :: s, [] => by
    simp only [esc]
    by_cases hb : b = 0
    · subst hb; rw [if_pos rfl, if_neg (by simp)]; rfl
    · rw [if_neg hb, if_neg (by simp)]
      simp only [List.cons_append, cmpL, if_neg (u_not_lt0 b), if_pos (u0_lt b hb)]
  | b :: s, c :: t => by
    have ih := esc_cmp x y s t
    have hi : (b :: s = c :: t) ↔ b = c ∧ s = t := by simp
    simp only [esc]
    by_cases hb : b = 0
    · by_cases hc : c = 0
      · subst hb; subst hc
        simp only [if_true, List.cons_append, cmpL_cons, ih]
        by_cases h : s = t
        · rw [if_pos h, if_pos (by rw [h])]
        · rw [if_neg h, if_neg (by simp [h])]
      · subst hb
        rw [if_pos rfl, if_neg hc, if_neg (fun h => hc ((hi.1 h).1.symm))]
        simp only [List.cons_append, cmpL, if_pos (u0_lt c hc)]
    · by_cases hc : c = 0
      · subst hc
        rw [if_neg hb, if_pos rfl, if_neg (fun h => hb (hi.1 h).1)]
        simp only [List.cons_append, cmpL, if_neg (u_not_lt0 b), if_pos (u0_lt b hb)]
      · rw [if_neg hb, if_neg hc]
        simp only [List.cons_append, cmpL]
        by_cases h1 : b < c
        · rw [if_pos h1, if_pos h1, if_neg (fun h => by have := (hi.1 h).1; subst this; exact UInt8.lt_irrefl _ h1)]
        · by_cases h2 : c < b
          · rw [if_neg h1, if_pos h2, if_neg h1, if_pos h2, if_neg (fun h => by have := (hi.1 h).1; subst this; exact UInt8.lt_irrefl _ h2)]
          · have e : b = c := UInt8.le_antisymm (UInt8.not_lt.1 h2) (UInt8.not_lt.1 h1)
            subst e
            rw [if_neg h1, if_neg h2, if_neg h1, if_neg h2, ih]
            by_cases h : s = t
            · rw [if_pos h, if_pos (by rw [h])]
            · rw [if_neg h, if_neg (by simp [h])]
/-- How two values stand. -/
def cmpV (a b : V) : Int := if a.f0 < b.f0 ∨ (a.f0 = b.f0 ∧ a.f1 < b.f1) then -1 else if a.f0 > b.f0 ∨ a.f1 > b.f1 then 1 else cmpS a.f2 b.f2
def cmpVs : List V → List V → Int
  | [], [] => 0
  | [], _ :: _ => -1
  | _ :: _, [] => 1
  | x :: xs, y :: ys => if cmpV x y ≠ 0 then cmpV x y else cmpVs xs ys
theorem right_kind {v : V} (h : rightV v = true) : v.f0 = 0 ∨ v.f0 = 1 ∨ v.f0 = 2 := by
  unfold rightV at h
  by_cases h0 : v.f0 = 0
  · exact .inl h0
  · by_cases h1 : v.f0 = 1
    · exact .inr (.inl h1)
    · rw [if_neg h0, if_neg h1] at h
      simp only [Bool.and_eq_true, decide_eq_true_eq] at h
      exact .inr (.inr h.1.1)
theorem right_null {v : V} (h : rightV v = true) (h0 : v.f0 = 0) : v.f1 = 0 ∧ v.f2.toList = [] := by
  unfold rightV at h
  rw [if_pos h0] at h
  simpa using h
theorem right_int {v : V} (h : rightV v = true) (h0 : v.f0 = 1) : v.f2.toList = [] := by
  unfold rightV at h
  rw [if_neg (by omega), if_pos h0] at h
  simpa using h
theorem right_text {v : V} (h : rightV v = true) (h0 : v.f0 = 2) : v.f1 = 0 ∧ v.f2.size ≤ 64 := by
  unfold rightV at h
  rw [if_neg (by omega), if_neg (by omega)] at h
  simp only [Bool.and_eq_true, decide_eq_true_eq] at h
  exact ⟨h.1.2, h.2⟩
theorem off_lt {n : Int} (h : In64 n) : off n < 256 ^ 8 := by
  unfold off In64 at *
  have : (256 : Nat) ^ 8 = 18446744073709551616 := by decide
  omega
theorem cmpV_self (v : V) : cmpV v v = 0 := by
  unfold cmpV
  rw [if_neg (by omega), if_neg (by omega), cmpS_self]
/-- The keys of two values, whatever is behind them. -/
theorem enc_cmp (v w : V) (hv : rightV v = true) (hw : rightV w = true) (nv : In64 v.f1) (nw : In64 w.f1) (x y : List UInt8) :
    cmpL (enc v ++ x) (enc w ++ y) = (if v = w then cmpL x y else cmpV v w) ∧ (v ≠ w → cmpV v w ≠ 0) := by
  have kv := right_kind hv
  have kw := right_kind hw
  by_cases hk : v.f0 = w.f0
  · have hd : UInt8.ofNat (v.f0 + 1).toNat = UInt8.ofNat (w.f0 + 1).toNat := by rw [hk]
    unfold enc
    rw [hd, List.cons_append, List.cons_append, cmpL_cons]
    rcases kv with k0 | k1 | k2
    · obtain ⟨a1, a2⟩ := right_null hv k0
      obtain ⟨b1, b2⟩ := right_null hw (by omega)
      have e : v = w := v_ext v w hk (by omega) (ext _ _ (by rw [a2, b2]))
      subst e
      unfold tail
      rw [if_neg (by omega), if_neg (by omega)]
      exact ⟨by simp, fun h => absurd rfl h⟩
    · have a2 := right_int hv k1
      have b2 := right_int hw (by omega)
      have es : v.f2 = w.f2 := ext _ _ (by rw [a2, b2])
      unfold tail
      rw [if_pos k1, if_pos (by omega), be_cmp x y 8 _ _ (off_lt nv) (off_lt nw)]
      have q1 : (off v.f1 = off w.f1) ↔ v = w := by
        constructor
        · intro h
          refine v_ext v w hk ?_ es
          unfold off In64 at *
          omega
        · intro h; rw [h]
      have q2 : (off v.f1 < off w.f1) ↔ v.f1 < w.f1 := by unfold off In64 at *; omega
      have hc : v ≠ w → cmpV v w = if v.f1 < w.f1 then -1 else 1 := by
        intro hne
        have : v.f1 ≠ w.f1 := fun h => hne (v_ext v w hk h es)
        unfold cmpV
        by_cases h1 : v.f1 < w.f1
        · rw [if_pos (.inr ⟨hk, h1⟩), if_pos h1]
        · rw [if_neg (by omega), if_pos (by omega), if_neg h1]
      constructor
      · by_cases h : v = w
        · rw [if_pos h, if_pos (q1.2 h)]
        · rw [if_neg h, if_neg (fun h2 => h (q1.1 h2)), hc h]
          by_cases h1 : v.f1 < w.f1
          · rw [if_pos h1, if_pos (q2.2 h1)]
          · rw [if_neg h1, if_neg (fun h2 => h1 (q2.1 h2))]
      · intro h
        rw [hc h]
        split <;> omega
    · obtain ⟨a1, a2⟩ := right_text hv k2
      obtain ⟨b1, b2⟩ := right_text hw (by omega)
      unfold tail
      rw [if_neg (by omega), if_pos k2, if_neg (by omega), if_pos (by omega), esc_cmp]
      have q : (v.f2.toList = w.f2.toList) ↔ v = w := ⟨fun h => v_ext v w hk (by omega) (ext _ _ h), fun h => by rw [h]⟩
      have hc : cmpV v w = cmpL v.f2.toList w.f2.toList := by
        unfold cmpV
        rw [if_neg (by omega), if_neg (by omega)]; rfl
      constructor
      · by_cases h : v = w
        · rw [if_pos h, if_pos (q.2 h)]
        · rw [if_neg h, if_neg (fun h2 => h (q.1 h2)), hc]
      · intro h
        rw [hc]
        exact fun h2 => h (q.1 (cmpL_zero _ _ h2))
  · have hne : v ≠ w := fun h => hk (by rw [h])
    rw [if_neg hne]
    have d : ∀ a b : Int, (a = 0 ∨ a = 1 ∨ a = 2) → (b = 0 ∨ b = 1 ∨ b = 2) → ((UInt8.ofNat (a + 1).toNat < UInt8.ofNat (b + 1).toNat) ↔ a < b) := by
      intro a b ha hb
      rw [ofNat_lt (by omega) (by omega)]
      omega
    unfold enc cmpV
    simp only [List.cons_append, cmpL, d _ _ kv kw, d _ _ kw kv]
    by_cases h1 : v.f0 < w.f0
    · rw [if_pos h1, if_pos (.inl h1)]
      exact ⟨rfl, fun _ => by omega⟩
    · rw [if_neg h1, if_pos (by omega), if_neg (by omega), if_pos (by omega)]
      exact ⟨rfl, fun _ => by omega⟩
/-- A list that may be. -/
def Good (l : List V) : Prop := ∀ v ∈ l, rightV v = true ∧ In64 v.f1
theorem good_cons {v : V} {l : List V} (h : Good (v :: l)) : rightV v = true ∧ In64 v.f1 ∧ Good l := ⟨(h v (by simp)).1, (h v (by simp)).2, fun w hw => h w (by simp [hw])⟩
theorem encL_cmp : ∀ a b : List V, Good a → Good b → cmpL (encL a) (encL b) = cmpVs a b
  | [], [], _, _ => rfl
  | [], w :: b, _, _ => rfl
  | v :: a, [], _, _ => rfl
  | v :: a, w :: b, ha, hb => by
    obtain ⟨r1, n1, g1⟩ := good_cons ha
    obtain ⟨r2, n2, g2⟩ := good_cons hb
    obtain ⟨e, hne⟩ := enc_cmp v w r1 r2 n1 n2 (encL a) (encL b)
    simp only [encL, cmpVs]
    rw [e]
    by_cases h : v = w
    · subst h
      rw [if_pos rfl, cmpV_self, if_neg (by omega), encL_cmp a b g1 g2]
    · rw [if_neg h, if_pos (hne h)]
theorem encL_app : ∀ a b : List V, encL (a ++ b) = encL a ++ encL b
  | [], _ => rfl
  | v :: a, b => by simp only [List.cons_append, encL, encL_app a b, List.append_assoc]
theorem encL_inj (a b : List V) (ha : Good a) (hb : Good b) (h : encL a = encL b) : a = b := by
  have h1 := encL_cmp a b ha hb
  rw [h, cmpL_self] at h1
  clear h
  induction a generalizing b with
  | nil => cases b with
    | nil => rfl
    | cons w b => simp [cmpVs] at h1
  | cons v a ih => cases b with
    | nil => simp [cmpVs] at h1
    | cons w b =>
      obtain ⟨r1, n1, g1⟩ := good_cons ha
      obtain ⟨r2, n2, g2⟩ := good_cons hb
      simp only [cmpVs] at h1
      by_cases h : v = w
      · subst h
        rw [cmpV_self, if_neg (by omega)] at h1
        rw [ih b g1 g2 h1]
      · have := (enc_cmp v w r1 r2 n1 n2 [] []).2 h
        rw [if_pos this] at h1
        exact absurd h1.symm this
/-- No key of one value begins another one's. -/
theorem enc_apart (v w : V) (hv : rightV v = true) (hw : rightV w = true) (nv : In64 v.f1) (nw : In64 w.f1) (hne : v ≠ w) (z : List UInt8) : enc w ≠ enc v ++ z := by
  intro h
  obtain ⟨e, h2⟩ := enc_cmp v w hv hw nv nw z []
  rw [List.append_nil, ← h, cmpL_self, if_neg hne] at e
  exact h2 hne e.symm
/-- A key lies under another one's just if the list begins so. -/
theorem encL_under : ∀ a b : List V, Good a → Good b → ((cmpL (encL a) (encL b) ≤ 0 ∧ cmpL (encL b) (encL a ++ [255]) < 0) ↔ ∃ c, b = a ++ c)
  | [], b, _, hb => by
    constructor
    · intro _; exact ⟨b, rfl⟩
    · intro _
      cases b with
      | nil => simp [encL, cmpL]
      | cons w b =>
        obtain ⟨r2, n2, g2⟩ := good_cons hb
        have kw := right_kind r2
        have : UInt8.ofNat (w.f0 + 1).toNat < 255 := by
          rw [show (255 : UInt8) = UInt8.ofNat 255 from rfl, ofNat_lt (by omega) (by omega)]
          omega
        simp only [encL, enc, List.cons_append, List.nil_append, cmpL, if_pos this]
        omega
  | v :: a, [], _, _ => by
    constructor
    · rintro ⟨h, _⟩
      simp [encL, enc, cmpL] at h
    · rintro ⟨c, h⟩
      simp at h
  | v :: a, w :: b, ha, hb => by
    obtain ⟨r1, n1, g1⟩ := good_cons ha
    obtain ⟨r2, n2, g2⟩ := good_cons hb
    obtain ⟨e1, hne1⟩ := enc_cmp v w r1 r2 n1 n2 (encL a) (encL b)
    obtain ⟨e2, hne2⟩ := enc_cmp w v r2 r1 n2 n1 (encL b) (encL a ++ [255])
    simp only [encL, List.append_assoc]
    rw [e1, e2]
    by_cases h : v = w
    · subst h
      rw [if_pos rfl, if_pos rfl, encL_under a b g1 g2]
      constructor
      · rintro ⟨c, rfl⟩; exact ⟨c, rfl⟩
      · rintro ⟨c, hc⟩
        simp only [List.cons_append, List.cons.injEq, true_and] at hc
        exact ⟨c, hc⟩
    · rw [if_neg h, if_neg (fun h2 => h h2.symm)]
      have hsw : cmpV w v = - cmpV v w := by
        have s1 := cmpL_swap (enc v ++ []) (enc w ++ [])
        rw [(enc_cmp v w r1 r2 n1 n2 [] []).1, (enc_cmp w v r2 r1 n2 n1 [] []).1, if_neg h, if_neg (fun h2 => h h2.symm)] at s1
        exact s1
      constructor
      · rintro ⟨h1, h2⟩
        have := hne1 h
        omega
      · rintro ⟨c, hc⟩
        simp only [List.cons_append, List.cons.injEq] at hc
        exact absurd hc.1.symm h
end Go.Proofs.Ytkhbmamcbhjafaa.Keys
end
section
/- What the program's and the document's Encode compute, over the printed functions. -/
namespace Go.Proofs.Ytkhbmamcbhjafaa.Keys
open Go.RowKit Go.Proofs.YtkhbmamcbhjafaaW.PrintWords Go.Proofs.YtkhbmamcbhjafaaW.PrintLast Go.Proofs.YtkhbmamcbhjafaaW.PrintMore Go.Proofs.Ytkhbmamcbhjafaa.Str Go.Proofs.Ytkhbmamcbhjafaa.PRef Go.Proofs.Ytkhbmamcbhjafaa.Stands
set_option linter.unusedVariables false
set_option linter.unusedSimpArgs false
/-- Bytes as whole numbers. -/
def ints (l : List UInt8) : List Int := l.map fun b => (b.toNat : Int)
theorem ints_app (a b : List UInt8) : ints (a ++ b) = ints a ++ ints b := by simp [ints]
theorem ints_length (a : List UInt8) : (ints a).length = a.length := by simp [ints]
theorem str_ints (l : List UInt8) : strOfNums (ints l) = ⟨l.toArray⟩ := by
  unfold strOfNums ints
  congr 1
  simp [List.map_map, Function.comp_def]
theorem mk_toList (l : List UInt8) : (⟨l.toArray⟩ : ByteArray).toList = l := by rw [toList_eq]
theorem mk_ext (s : ByteArray) (l : List UInt8) (h : s.toList = l) : s = ⟨l.toArray⟩ := ext _ _ (by rw [h, mk_toList])
theorem xor63 (a : Nat) (h : a < 18446744073709551616) : a ^^^ 9223372036854775808 = (a + 9223372036854775808) % 18446744073709551616 := by
  have e1 : (9223372036854775808 : Nat) = 2 ^ 63 := by decide
  have e2 : (18446744073709551616 : Nat) = 2 ^ 64 := by decide
  rw [e1, e2] at *
  apply Nat.eq_of_testBit_eq
  intro i
  rw [Nat.testBit_xor, Nat.testBit_two_pow, Nat.testBit_mod_two_pow, Nat.add_comm]
  rcases Nat.lt_trichotomy i 63 with h1 | h1 | h1
  · rw [Nat.testBit_two_pow_add_gt h1, decide_eq_false (by omega), decide_eq_true (by omega)]; simp
  · subst h1
    rw [Nat.testBit_two_pow_add_eq]; simp
  · have : a.testBit i = false := Nat.testBit_lt_two_pow (Nat.lt_of_lt_of_le h (Nat.pow_le_pow_right (n := 2) (i := 64) (j := i) (by decide) (show 64 ≤ i by omega)))
    rw [this, decide_eq_false (show ¬ 63 = i by omega), decide_eq_false (show ¬ i < 64 by omega)]; simp
theorem right_eq (a b : Int) (s : ByteArray) : lintelref01_Right.f a b s = some (rightV ⟨a, b, s⟩) := by
  unfold lintelref01_Right.f rightV
  have e : (s.toList == ([] : List UInt8)) = decide (s.toList = []) := by rw [Bool.eq_iff_iff]; simp
  by_cases h0 : a = 0
  · rw [if_pos h0, if_pos h0]
    by_cases h1 : b = 0
    · simp [h1, e]
    · simp [h1]
  · rw [if_neg h0, if_neg h0]
    by_cases h2 : a = 1
    · rw [if_pos h2, if_pos h2, e]
    · rw [if_neg h2, if_neg h2]
      by_cases h3 : a = 2
      · by_cases h1 : b = 0
        · by_cases h4 : s.size ≤ 64
          · have : (s.size : Int) ≤ 64 := by omega
            simp [h1, h3, h4, this]
          · have : ¬ (s.size : Int) ≤ 64 := by omega
            simp [h1, h3, h4, this]
        · simp [h1, h3]
      · simp [h3]
theorem check_eq (a b : Int) (s : ByteArray) : value_Check.f a b s = some (if rightV ⟨a, b, s⟩ = true then 0 else 10) := by
  unfold value_Check.f rightV
  by_cases h0 : a = 0
  · rw [if_pos h0, if_pos h0]
    by_cases h1 : b = 0
    · by_cases h2 : s.toList = []
      · simp [h1, h2]
      · simp [h1, h2]
    · simp [h1]
  · rw [if_neg h0, if_neg h0]
    by_cases h2 : a = 1
    · rw [if_pos h2, if_pos h2]
      by_cases h3 : s.toList = []
      · simp [h3]
      · simp [h3]
    · rw [if_neg h2, if_neg h2]
      by_cases h3 : a = 2
      · by_cases h1 : b = 0
        · by_cases h4 : s.size ≤ 64
          · have : (s.size : Int) ≤ 64 := by omega
            simp [h1, h3, h4, this]
          · have : ¬ (s.size : Int) ≤ 64 := by omega
            simp [h1, h3, h4, this]
        · simp [h1, h3]
      · simp [h3]
theorem xor_off (n : Int) (h : In64 n) : Go.bits .xor .u64 (IntKind.u64.wrap n) 9223372036854775808 = (off n : Int) := by
  unfold In64 off at *
  rw [IntKind.wrap_u64, u64_xor _ _ (by omega) (by omega) (by omega) (by omega), show (9223372036854775808 : Int).toNat = 9223372036854775808 from rfl, xor63 _ (by omega)]
  omega
theorem add_off (n : Int) (h : In64 n) : IntKind.u64.wrap (IntKind.u64.wrap n + 9223372036854775808) = (off n : Int) := by
  unfold In64 off at *
  rw [IntKind.wrap_u64, IntKind.wrap_u64]
  omega
theorem shr_be (u k : Nat) (hk : 8 * k ≤ 64) : (shr .u64 (u : Int) ((8 * k : Nat) : Int)) % 256 = ((UInt8.ofNat (u / 256 ^ k % 256)).toNat : Int) := by
  unfold shr
  have h64 : IntKind.u64.bits = 64 := rfl
  rw [h64, Int.toNat_natCast, Nat.min_eq_left hk, UInt8.toNat_ofNat']
  have e2 : (2 : Int) ^ (8 * k) = ((256 ^ k : Nat) : Int) := by
    rw [Int.pow_mul, Int.natCast_pow]
    rfl
  have e3 : ((u / 256 ^ k % 256 : Nat) : Int) = (u : Int) / ((256 ^ k : Nat) : Int) % 256 := by
    rw [Int.natCast_emod, Int.natCast_ediv]
    rfl
  rw [e2, ← e3, Nat.mod_mod]
theorem add_l0 (u : Nat) : ∀ (j k : Nat) (xs : List Int), j ≤ 8 → xs.length + j ≤ 100000 → j < k → keys_add.l0 k xs (u : Int) (8 * (j : Int) - 8) = some (xs ++ ints (be j u))
  | 0, k, xs, hj, hx, hk => by
    obtain ⟨k, rfl⟩ : ∃ m, k = m + 1 := ⟨k - 1, by omega⟩
    simp only [keys_add.l0]
    rw [if_neg (by omega)]
    simp [be, ints]
  | j + 1, k, xs, hj, hx, hk => by
    obtain ⟨k, rfl⟩ : ∃ m, k = m + 1 := ⟨k - 1, by omega⟩
    have e : (8 * ((j + 1 : Nat) : Int) - 8) = ((8 * j : Nat) : Int) := by omega
    have hw : wrap64 (((8 * j : Nat) : Int) - 8) = 8 * (j : Int) - 8 := by unfold wrap64; omega
    rw [e]
    simp only [keys_add.l0]
    rw [if_pos (by omega), if_pos (by omega), if_pos (by omega), shr_be u j (by omega), hw, add_l0 u j k _ (by omega) (by simp; omega) (by omega)]
    simp [be, ints]
theorem one_l0 (u : Nat) (a b : Int) (s : ByteArray) : ∀ (j k : Nat) (xs : List Int), j ≤ 8 → xs.length + j ≤ 100000 → lintelref02_One.l0 (k + j + 1) xs (u : Int) (8 - (j : Int)) a b s = lintelref02_One.j1 k (xs ++ ints (be j u)) a b s
  | 0, k, xs, hj, hx => by
    simp only [lintelref02_One.l0]
    rw [if_neg (by omega)]
    simp [be, ints]
  | j + 1, k, xs, hj, hx => by
    have e : IntKind.u64.wrap (wrap64 (56 - wrap64 (8 * (8 - ((j + 1 : Nat) : Int))))) = ((8 * j : Nat) : Int) := by
      rw [IntKind.wrap_u64]; unfold wrap64; omega
    have hw : wrap64 (8 - ((j + 1 : Nat) : Int) + 1) = 8 - (j : Int) := by unfold wrap64; omega
    have ih := fun xs hx => one_l0 u a b s j k xs (by omega) hx
    rw [show k + (j + 1) + 1 = (k + j + 1) + 1 by omega]
    generalize k + j + 1 = m at ih
    simp only [lintelref02_One.l0]
    rw [if_pos (by omega), e, if_pos (by omega), if_pos (by omega), shr_be u j (by omega), hw, ih _ (by simp; omega)]
    simp [be, ints]
theorem add_l1 (a b : Int) (s : ByteArray) (hs : s.size ≤ 64) : ∀ (d i k : Nat) (xs : List Int), s.size - i = d → i ≤ s.size → xs.length + 2 * d ≤ 100000 → d < k →
    keys_add.l1 k xs (s.size : Int) (i : Int) a b s = some (xs ++ ints (esc (s.toList.drop i))) := by
  intro d
  induction d with
  | zero =>
    intro i k xs hd hi hx hk
    obtain ⟨k, rfl⟩ : ∃ m, k = m + 1 := ⟨k - 1, by omega⟩
    simp only [keys_add.l1]
    rw [if_neg (by omega), drop_end s i (by omega)]
    simp only [Option.bind_some]
    rw [if_pos (by simp; omega)]
    rfl
  | succ d ih =>
    intro i k xs hd hi hx hk
    obtain ⟨k, rfl⟩ : ∃ m, k = m + 1 := ⟨k - 1, by omega⟩
    have hlt : i < s.size := by omega
    simp only [keys_add.l1]
    rw [if_pos (by omega), if_pos (by omega), if_pos (by omega), if_pos (by omega), bt_nat s i hlt, wrap_nat i s.size hlt (by omega), drop_at s i hlt]
    simp only [Option.bind_some, esc]
    by_cases h0 : s[i] = 0
    · rw [if_pos (by rw [h0]; rfl), if_pos (by simp; omega), if_pos h0, h0, ih (i + 1) k _ (by omega) (by omega) (by simp; omega) (by omega)]
      simp [ints]
    · have : ¬ (s[i].toNat : Int) = 0 := fun h => h0 (UInt8.toNat_inj.1 (by show s[i].toNat = 0; omega))
      rw [if_neg this, if_neg h0, ih (i + 1) k _ (by omega) (by omega) (by simp; omega) (by omega)]
      simp [ints]
theorem one_l1 (a b : Int) (s : ByteArray) (hs : s.size ≤ 64) : ∀ (d i k : Nat) (xs : List Int), s.size - i = d → i ≤ s.size → xs.length + 2 * d ≤ 100000 → d < k →
    lintelref02_One.l1 k xs (i : Int) a b s = some (strOfNums (xs ++ ints (esc (s.toList.drop i)))) := by
  intro d
  induction d with
  | zero =>
    intro i k xs hd hi hx hk
    obtain ⟨k, rfl⟩ : ∃ m, k = m + 1 := ⟨k - 1, by omega⟩
    simp only [lintelref02_One.l1]
    rw [if_neg (by omega), drop_end s i (by omega)]
    simp only [Option.bind_some]
    rw [if_pos (by simp; omega)]
    rfl
  | succ d ih =>
    intro i k xs hd hi hx hk
    obtain ⟨k, rfl⟩ : ∃ m, k = m + 1 := ⟨k - 1, by omega⟩
    have hlt : i < s.size := by omega
    simp only [lintelref02_One.l1]
    rw [if_pos (by omega), if_pos (by omega), if_pos (by omega), bt_nat s i hlt, wrap_nat i s.size hlt (by omega), drop_at s i hlt]
    simp only [Option.bind_some, esc]
    by_cases h0 : s[i] = 0
    · rw [if_pos (by rw [h0]; rfl), if_pos (by simp; omega), if_pos h0, h0, ih (i + 1) k _ (by omega) (by omega) (by simp; omega) (by omega)]
      simp [ints]
    · have : ¬ (s[i].toNat : Int) = 0 := fun h => h0 (UInt8.toNat_inj.1 (by show s[i].toNat = 0; omega))
      rw [if_neg this, if_neg h0, ih (i + 1) k _ (by omega) (by omega) (by simp; omega) (by omega)]
      simp [ints]
theorem head_byte (v : V) (h : rightV v = true) : wrap64 (1 + v.f0) % 256 = ((UInt8.ofNat (v.f0 + 1).toNat).toNat : Int) := by
  have := right_kind h
  rw [UInt8.toNat_ofNat']
  unfold wrap64
  omega
theorem head_byte' (v : V) (h : rightV v = true) : wrap64 (v.f0 + 1) % 256 = ((UInt8.ofNat (v.f0 + 1).toNat).toNat : Int) := by
  rw [← head_byte v h, Int.add_comm]
theorem add_eq (v : V) (h : rightV v = true) (hn : In64 v.f1) (k : Nat) (xs : List Int) (hk : 100 ≤ k) (hx : xs.length ≤ 90000) : keys_add.f k xs v.f0 v.f1 v.f2 = some (xs ++ ints (enc v)) := by
  unfold keys_add.f
  rw [if_pos (by omega), head_byte v h]
  simp only [Option.bind_some]
  unfold enc tail
  rcases right_kind h with k0 | k1 | k2
  · rw [if_neg (by omega), if_neg (by omega), if_neg (by omega), if_neg (by omega)]
    simp [ints]
  · rw [if_pos k1, if_pos k1, xor_off _ hn]
    have := add_l0 (off v.f1) 8 k (xs ++ [((UInt8.ofNat (v.f0 + 1).toNat).toNat : Int)]) (by omega) (by simp; omega) (by omega)
    rw [show (8 * ((8 : Nat) : Int) - 8) = 56 by omega] at this
    rw [this]
    simp [ints]
  · have hs := (right_text h k2).2
    rw [if_neg (by omega), if_pos k2, if_neg (by omega), if_pos k2]
    have := add_l1 v.f0 v.f1 v.f2 hs v.f2.size 0 k (xs ++ [((UInt8.ofNat (v.f0 + 1).toNat).toNat : Int)]) (by omega) (by omega) (by simp; omega) (by omega)
    rw [show ((0 : Nat) : Int) = 0 from rfl] at this
    rw [this]
    simp [ints]
theorem one_eq (v : V) (h : rightV v = true) (hn : In64 v.f1) (k : Nat) (hk : 100 ≤ k) : lintelref02_One.f k v.f0 v.f1 v.f2 = some ⟨(enc v).toArray⟩ := by
  unfold lintelref02_One.f
  rw [head_byte' v h]
  simp only [Option.bind_some]
  rw [← str_ints]
  unfold enc tail
  rcases right_kind h with k0 | k1 | k2
  · obtain ⟨k, rfl⟩ : ∃ m, k = m + 1 := ⟨k - 1, by omega⟩
    rw [if_neg (by omega), if_neg (by omega), if_neg (by omega)]
    simp only [lintelref02_One.j1]
    rw [if_neg (by omega)]
    rfl
  · rw [if_pos k1, if_pos k1, add_off _ hn]
    obtain ⟨k, rfl⟩ : ∃ m, k = m + 1 + 8 + 1 := ⟨k - 10, by omega⟩
    have := one_l0 (off v.f1) v.f0 v.f1 v.f2 8 (k + 1) [((UInt8.ofNat (v.f0 + 1).toNat).toNat : Int)] (by omega) (by simp)
    rw [show (8 : Int) - ((8 : Nat) : Int) = 0 by omega] at this
    rw [this]
    simp only [lintelref02_One.j1]
    rw [if_neg (by omega)]
    rfl
  · have hs := (right_text h k2).2
    obtain ⟨k, rfl⟩ : ∃ m, k = m + 1 := ⟨k - 1, by omega⟩
    rw [if_neg (by omega), if_neg (by omega), if_pos k2]
    simp only [lintelref02_One.j1]
    rw [if_pos k2]
    have := one_l1 v.f0 v.f1 v.f2 hs v.f2.size 0 k [((UInt8.ofNat (v.f0 + 1).toNat).toNat : Int)] (by omega) (by omega) (by simp; omega) (by omega)
    rw [show ((0 : Nat) : Int) = 0 from rfl] at this
    rw [this]
    rfl
end Go.Proofs.Ytkhbmamcbhjafaa.Keys
end
section
/- Encode, whole. -/
namespace Go.Proofs.Ytkhbmamcbhjafaa.Keys
open Go.RowKit Go.Proofs.YtkhbmamcbhjafaaW.PrintWords Go.Proofs.YtkhbmamcbhjafaaW.PrintLast Go.Proofs.YtkhbmamcbhjafaaW.PrintMore Go.Proofs.Ytkhbmamcbhjafaa.Str Go.Proofs.Ytkhbmamcbhjafaa.PRef Go.Proofs.Ytkhbmamcbhjafaa.Stands
set_option linter.unusedVariables false
set_option linter.unusedSimpArgs false
/-- All of them 64 bits, as they are read. -/
def N64 (l : List V) : Prop := ∀ v ∈ l, In64 v.f1
/-- The key of a list, or what is wrong with it. -/
def encode (l : List V) : ByteArray × Int := if l.length > 8 then (⟨#[]⟩, 21) else if l.all rightV = true then (⟨(encL l).toArray⟩, 0) else (⟨#[]⟩, 10)
theorem rdv (l : List V) (i : Nat) (h : i < l.length) : rd_T36 l (i : Int) = l[i] := by
  show l.getD i _ = _
  rw [List.getD_eq_getElem?_getD, List.getElem?_eq_getElem h]; rfl
theorem enc_length (v : V) (h : rightV v = true) : (enc v).length ≤ 131 := by
  unfold enc tail
  have he : ∀ l : List UInt8, (esc l).length ≤ 2 * l.length + 2 := by
    intro l
    induction l with
    | nil => simp [esc]
    | cons b l ih => simp only [esc]; split <;> simp <;> omega
  rcases right_kind h with k0 | k1 | k2
  · rw [if_neg (by omega), if_neg (by omega)]; simp
  · rw [if_pos k1]; simp [be_length]
  · rw [if_neg (by omega), if_pos k2]
    have h1 := he v.f2.toList
    have h2 := (right_text h k2).2
    rw [size_toList] at h1
    simp only [List.length_cons]
    omega
theorem encL_length : ∀ (l : List V), l.all rightV = true → (encL l).length ≤ 131 * l.length
  | [], _ => by simp [encL]
  | v :: l, h => by
    simp only [List.all_cons, Bool.and_eq_true] at h
    have := enc_length v h.1
    have := encL_length l h.2
    simp only [encL, List.length_append, List.length_cons]
    omega
theorem take_succ' (l : List V) (i : Nat) (h : i < l.length) : l.take (i + 1) = l.take i ++ [l[i]] := by rw [List.take_succ_eq_append_getElem h]
theorem all_take (l : List V) (i : Nat) (h : i < l.length) (ha : (l.take i).all rightV = true) (hr : rightV l[i] = true) : (l.take (i + 1)).all rightV = true := by
  rw [take_succ' l i h, List.all_append, ha]; simp [hr]
theorem not_all (l : List V) (i : Nat) (h : i < l.length) (hr : rightV l[i] = false) : l.all rightV = false := by
  rw [List.all_eq_false]
  exact ⟨l[i], List.getElem_mem h, by simp [hr]⟩
theorem encode_l0 (l : List V) (hn : N64 l) (hl : l.length ≤ 8) : ∀ (d i k : Nat), l.length - i = d → i ≤ l.length → d + 200 ≤ k → (l.take i).all rightV = true →
    keys_Encode.l0 k (ints (encL (l.take i))) l (l.length : Int) (i : Int) = some (encode l) := by
  intro d
  induction d with
  | zero =>
    intro i k hd hi hk ha
    obtain ⟨k, rfl⟩ : ∃ m, k = m + 1 := ⟨k - 1, by omega⟩
    have e : l.take i = l := List.take_of_length_le (by omega)
    rw [e] at ha ⊢
    simp only [keys_Encode.l0]
    rw [if_neg (by omega), str_ints]
    unfold encode
    rw [if_neg (by omega), if_pos ha]
  | succ d ih =>
    intro i k hd hi hk ha
    obtain ⟨k, rfl⟩ : ∃ m, k = m + 1 := ⟨k - 1, by omega⟩
    have hlt : i < l.length := by omega
    have hlen := encL_length (l.take i) ha
    have hlt2 : (l.take i).length ≤ i := List.length_take_le _ _
    have ih' := ih (i + 1) k (by omega) (by omega) (by omega)
    simp only [keys_Encode.l0]
    rw [if_pos (by omega), if_pos (by omega), if_pos (by omega), rdv l i hlt, check_eq]
    simp only [Option.bind_some]
    by_cases hr : rightV l[i] = true
    · have hr' : rightV ⟨l[i].f0, l[i].f1, l[i].f2⟩ = true := hr
      rw [if_pos (by rw [if_pos hr']), add_eq l[i] hr (hn _ (List.getElem_mem hlt)) k _ (by omega) (by rw [ints_length]; omega)]
      simp only [Option.bind_some]
      have h1 := ih' (all_take l i hlt ha hr)
      rw [take_succ' l i hlt, encL_app, ints_app] at h1
      have hw : wrap64 ((i : Int) + 1) = ((i + 1 : Nat) : Int) := by unfold wrap64; omega
      rw [hw]
      simpa [encL] using h1
    · have hr : rightV l[i] = false := by simpa using hr
      have hr' : rightV ⟨l[i].f0, l[i].f1, l[i].f2⟩ = false := hr
      have he : encode l = (⟨#[]⟩, 10) := by
        unfold encode
        rw [if_neg (by omega), not_all l i hlt hr]; rfl
      rw [hr', he]
      simp
theorem encode_eq (l : List V) (hn : N64 l) (k : Nat) (hk : 300 ≤ k) : keys_Encode.f k l = some (encode l) := by
  unfold keys_Encode.f
  by_cases h8 : l.length > 8
  · rw [if_pos (by omega)]
    unfold encode
    rw [if_pos h8]
  · rw [if_neg (by omega)]
    have := encode_l0 l hn (by omega) l.length 0 k (by omega) (by omega) (by omega) (by simp)
    simpa [encL, ints] using this
theorem mk_app (a b : List UInt8) : (⟨a.toArray⟩ : ByteArray) ++ ⟨b.toArray⟩ = ⟨(a ++ b).toArray⟩ := by
  apply ext
  rw [mk_toList]
  simp [toList_eq]
theorem mk_size (a : List UInt8) : (⟨a.toArray⟩ : ByteArray).size = a.length := by rw [← size_toList, mk_toList]
theorem ref_encode_l0 (l : List V) (hn : N64 l) (hl : l.length ≤ 8) : ∀ (d i k : Nat), l.length - i = d → i ≤ l.length → d + 200 ≤ k → (l.take i).all rightV = true →
    lintelref02_Encode.l0 k l ⟨(encL (l.take i)).toArray⟩ (i : Int) = some (encode l) := by
  intro d
  induction d with
  | zero =>
    intro i k hd hi hk ha
    obtain ⟨k, rfl⟩ : ∃ m, k = m + 1 := ⟨k - 1, by omega⟩
    have e : l.take i = l := List.take_of_length_le (by omega)
    rw [e] at ha ⊢
    simp only [lintelref02_Encode.l0]
    rw [if_neg (by omega)]
    unfold encode
    rw [if_neg (by omega), if_pos ha]
  | succ d ih =>
    intro i k hd hi hk ha
    obtain ⟨k, rfl⟩ : ∃ m, k = m + 1 := ⟨k - 1, by omega⟩
    have hlt : i < l.length := by omega
    have hlen := encL_length (l.take i) ha
    have hlt2 : (l.take i).length ≤ i := List.length_take_le _ _
    have ih' := ih (i + 1) k (by omega) (by omega) (by omega)
    simp only [lintelref02_Encode.l0]
    rw [if_pos (by omega), if_pos (by omega), rdv l i hlt, right_eq]
    simp only [Option.bind_some]
    by_cases hr : rightV l[i] = true
    · have hr' : rightV ⟨l[i].f0, l[i].f1, l[i].f2⟩ = true := hr
      have hel := enc_length _ hr
      rw [if_pos hr', one_eq l[i] hr (hn _ (List.getElem_mem hlt)) k (by omega)]
      simp only [Option.bind_some]
      rw [if_pos (by rw [mk_size, mk_size]; omega), mk_app]
      have h1 := ih' (all_take l i hlt ha hr)
      rw [take_succ' l i hlt, encL_app] at h1
      have hw : wrap64 ((i : Int) + 1) = ((i + 1 : Nat) : Int) := by unfold wrap64; omega
      rw [hw]
      simpa [encL] using h1
    · have hr : rightV l[i] = false := by simpa using hr
      have hr' : rightV ⟨l[i].f0, l[i].f1, l[i].f2⟩ = false := hr
      have he : encode l = (⟨#[]⟩, 10) := by
        unfold encode
        rw [if_neg (by omega), not_all l i hlt hr]; rfl
      rw [hr', he]
      simp
theorem ref_encode_eq (l : List V) (hn : N64 l) (k : Nat) (hk : 300 ≤ k) : lintelref02_Encode.f k l = some (encode l) := by
  unfold lintelref02_Encode.f
  by_cases h8 : l.length > 8
  · rw [if_pos (by omega)]
    unfold encode
    rw [if_pos h8]
  · rw [if_neg (by omega)]
    have := ref_encode_l0 l hn (by omega) l.length 0 k (by omega) (by omega) (by omega) (by simp)
    simpa [encL] using this
end Go.Proofs.Ytkhbmamcbhjafaa.Keys
end
