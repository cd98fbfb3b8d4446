/- Layer 17: the four readers, each with what tok says. -/
import Derived.Test.YtkjfecpfjfkpnaaDoorLexT
namespace Go.Proofs.YtkjfecpfjfkpnaaDoor.Lex
open Go.Lib (parseIntB)
open Go.RowKit Go.Proofs.YtkjfecpfjfkpnaaDoorW.PrintWords Go.Proofs.YtkjfecpfjfkpnaaDoor.Sl Go.Proofs.YtkjfecpfjfkpnaaDoor.Str
open Go.Proofs.YtkjfecpfjfkpnaaDoor.Val (isDig)
set_option linter.unusedVariables false
/-- A reader's contract at a place, with what tok says of the bytes there. -/
def Reads (f : FuncId) (g : Nat) (s : ByteArray) (a : Nat) (c : UInt8) (r : List UInt8) : Prop :=
  ∃ (K : Int) (TX : ByteArray) (N E : Int) (EN : Nat),
    FunV Tryd.prog f #[.pointer (some ⟨g, 0, none⟩)] Vars [HP.obj g 37 [.string s, .int .i64 (a : Int)]] (.tuple #[.agg #[.int .i64 K, .int .i64 (a : Int), .string TX, .int .i64 N], .int .i64 E]) [HP.obj g 37 [.string s, .int .i64 (EN : Int)]] ∧
    ((E = 0 ∧ tok c r = .ok (K, TX.toList, N, EN - a) ∧ a < EN ∧ EN ≤ s.size) ∨ (E ≠ 0 ∧ tok c r = .error E))
theorem FunV.weak {P : Program} {f : FuncId} {args : Array Value} {R R' : World → Prop} {A : List HP} {v : Value} {B : List HP} (h : FunV P f args R A v B) (hr : ∀ w, R' w → R w) : FunV P f args R' A v B :=
  fun w S hS hR => h w S hS (fun w' e => hr w' (hR w' e))
theorem ext_take (s : ByteArray) (a e : Nat) (c : UInt8) (r : List UInt8) (hd : s.toList.drop a = c :: r) (n : Nat) (he : e = a + (1 + n)) : (s.extract a e).toList = c :: r.take n := by
  rw [Go.Lib.extract_toList, ← toList_eq, hd, he, show a + (1 + n) - a = n + 1 by omega]
  rfl
theorem rest_len (s : ByteArray) (a : Nat) (c : UInt8) (r : List UInt8) (hd : s.toList.drop a = c :: r) : a + 1 + r.length = s.size ∧ s.toList.drop (a + 1) = r := by
  have h1 := congrArg List.length hd
  rw [List.length_drop, size_toList] at h1
  simp only [List.length_cons] at h1
  have h2 : s.toList.drop (a + 1) = (s.toList.drop a).drop 1 := by rw [List.drop_drop]
  rw [hd] at h2
  exact ⟨by omega, h2⟩
theorem reads_let (g : Nat) (s : ByteArray) (hs : s.size ≤ 1000000) (a : Nat) (c : UInt8) (r : List UInt8) (hd : s.toList.drop a = c :: r) (hc : isLet c = true) : Reads 13 g s a c r := by
  obtain ⟨hl, hr⟩ := rest_len s a c r hd
  have hrl := runL_le isNam r
  have hn : isNam c = true := by simp [isNam, hc]
  have he : a + runL isNam (s.toList.drop a) = a + (1 + runL isNam r) := by rw [hd, runL_cons, hn]; simp; omega
  have htx := ext_take s a (a + (1 + runL isNam r)) c r hd (runL isNam r) rfl
  rw [← runL_take] at htx
  have hsz : (s.extract a (a + (1 + runL isNam r))).size = 1 + runL isNam r := by
    rw [← size_toList, htx]
    simp [runL]
    omega
  have ht : tok c r = if 1 + runL isNam r > 16 then .error 21 else .ok (1, c :: r.takeWhile isNam, 0, 1 + runL isNam r) := by
    unfold tok
    rw [hc]
    rfl
  by_cases h : 1 + runL isNam r > 16
  · refine ⟨1, _, 0, 21, _, FunV.weak (name_long g s hs a (a + (1 + runL isNam r)) (by omega) he (by omega) _ rfl (by omega)) (fun _ _ => trivial), .inr ⟨by decide, ?_⟩⟩
    rw [ht, if_pos h]
  · refine ⟨1, _, 0, 0, _, FunV.weak (name_ok g s hs a (a + (1 + runL isNam r)) (by omega) he (by omega) _ rfl (by omega)) (fun _ _ => trivial), .inl ⟨rfl, ?_, by omega, by omega⟩⟩
    rw [ht, if_neg h, htx, show a + (1 + runL isNam r) - a = 1 + runL isNam r by omega]
theorem reads_num (g : Nat) (s : ByteArray) (hs : s.size ≤ 1000000) (a : Nat) (c : UInt8) (r : List UInt8) (hd : s.toList.drop a = c :: r) (hc : isLet c = false) (hc2 : (isDig c || c == 45) = true) : Reads 15 g s a c r := by
  obtain ⟨hl, hr⟩ := rest_len s a c r hd
  have hrl := runL_le isDig r
  have he : a + 1 + runL isDig (s.toList.drop (a + 1)) = a + (1 + runL isDig r) := by rw [hr]; omega
  have htx := ext_take s a (a + (1 + runL isDig r)) c r hd (runL isDig r) rfl
  rw [← runL_take] at htx
  have ht : tok c r = if c :: r.takeWhile isDig = [45] then .error 170 else match parseIntB 64 (c :: r.takeWhile isDig) with
      | .ok n => .ok (2, c :: r.takeWhile isDig, n, 1 + runL isDig r)
      | _ => .error 172 := by
    unfold tok
    rw [hc, hc2]
    rfl
  rw [← htx] at ht
  by_cases h : (s.extract a (a + (1 + runL isDig r))).toList = [45]
  · refine ⟨2, _, 0, 170, _, number_minus g s hs a (a + (1 + runL isDig r)) (by omega) he (by omega) _ rfl (by simpa using h), .inr ⟨by decide, ?_⟩⟩
    rw [ht, if_pos h]
  · rw [if_neg h] at ht
    have hb : ((s.extract a (a + (1 + runL isDig r))).toList == [45]) = false := by simpa using h
    by_cases h2 : ∃ n, parseIntB 64 (s.extract a (a + (1 + runL isDig r))).toList = .ok n
    · obtain ⟨n, hn⟩ := h2
      refine ⟨2, _, n, 0, _, number_ok g s hs a (a + (1 + runL isDig r)) (by omega) he (by omega) _ rfl hb n hn, .inl ⟨rfl, ?_, by omega, by omega⟩⟩
      rw [ht, hn, show a + (1 + runL isDig r) - a = 1 + runL isDig r by omega]
    · refine ⟨2, _, 0, 172, _, number_bad g s hs a (a + (1 + runL isDig r)) (by omega) he (by omega) _ rfl hb (fun n hn => h2 ⟨n, hn⟩), .inr ⟨by decide, ?_⟩⟩
      rw [ht]
      cases hp : parseIntB 64 (s.extract a (a + (1 + runL isDig r))).toList with
      | ok n => exact absurd ⟨n, hp⟩ h2
      | _ => rfl
theorem reads_txt (g : Nat) (s : ByteArray) (hs : s.size ≤ 1000000) (a : Nat) (c : UInt8) (r : List UInt8) (hd : s.toList.drop a = c :: r) (hc : c = 39) : Reads 16 g s a c r := by
  obtain ⟨hl, hr⟩ := rest_len s a c r hd
  subst hc
  have hf := text_fun g s hs a (by omega) _ rfl
  rw [hr] at hf
  have ht : tok 39 r = match txtS r with
      | none => .error 171
      | some (t, k) => if t.length > 64 then .error 21 else .ok (3, t, 0, 1 + k) := by
    unfold tok
    rfl
  cases hx : txtS r with
  | none =>
    rw [hx] at hf ht
    exact ⟨0, ⟨#[]⟩, 0, 171, a, FunV.weak hf (fun _ _ => trivial), .inr ⟨by decide, ht⟩⟩
  | some y =>
    obtain ⟨t, k⟩ := y
    have hk := txtS_len r t k hx
    rw [hx] at hf ht
    by_cases h : t.length > 64
    · have e : txtA a (some (t, k)) = (0, ⟨#[]⟩, 21, a + 1 + k) := by simp only [txtA]; rw [if_pos h]
      rw [e] at hf
      simp only [if_pos h] at ht
      exact ⟨0, ⟨#[]⟩, 0, 21, a + 1 + k, FunV.weak hf (fun _ _ => trivial), .inr ⟨by decide, ht⟩⟩
    · have e : txtA a (some (t, k)) = (3, ba t, 0, a + 1 + k) := by simp only [txtA]; rw [if_neg h]
      rw [e] at hf
      simp only [if_neg h] at ht
      refine ⟨3, ba t, 0, 0, a + 1 + k, FunV.weak hf (fun _ _ => trivial), .inl ⟨rfl, ?_, by omega, by omega⟩⟩
      rw [ba_toList, show a + 1 + k - a = 1 + k by omega]
      exact ht
theorem reads_sig (g : Nat) (s : ByteArray) (hs : s.size ≤ 1000000) (a : Nat) (c : UInt8) (r : List UInt8) (hd : s.toList.drop a = c :: r) (hc : isLet c = false) (hc2 : (isDig c || c == 45) = false) (hc3 : c ≠ 39) : Reads 11 g s a c r := by
  obtain ⟨hl, hr⟩ := rest_len s a c r hd
  have ha : a < s.size := by omega
  have hca : s[a] = c := by
    have h := drop_at s a ha
    rw [hd] at h
    exact (List.cons.inj h).1.symm
  have ht : tok c r = if isSig c then .ok (4, [c], 0, 1) else .error 170 := by
    unfold tok
    rw [hc, hc2, if_neg (by decide), if_neg (by decide), if_neg hc3]
  cases hx : isSig c
  · rw [hx] at ht
    exact ⟨_, _, _, _, _, FunV.weak (sign_no g s hs a ha c hca hx) (fun _ _ => trivial), .inr ⟨by decide, ht⟩⟩
  · rw [hx] at ht
    refine ⟨_, _, _, _, _, FunV.weak (sign_ok g s hs a ha c hca hx) (fun _ _ => trivial), .inl ⟨rfl, ?_, by omega, by omega⟩⟩
    rw [show a + 1 - a = 1 by omega, show (one c).toList = [c] by rw [toList_eq]; rfl]
    exact ht
end Go.Proofs.YtkjfecpfjfkpnaaDoor.Lex
