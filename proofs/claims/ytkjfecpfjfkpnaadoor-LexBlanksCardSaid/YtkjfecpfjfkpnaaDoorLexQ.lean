/- Layer 17, plain: places, cuts, blanks. No program in this text. -/
import Derived.Test.YtkjfecpfjfkpnaaDoorLexP
namespace Go.Proofs.YtkjfecpfjfkpnaaDoor.Lex
open Go.Lib (parseIntB)
open Go.Proofs.YtkjfecpfjfkpnaaDoor.Val (dbl quote isDig)
set_option linter.unusedVariables false
set_option linter.unusedSimpArgs false
/-- What tok answers is of the bytes ahead, but for a text. -/
theorem tok_text {c : UInt8} {r : List UInt8} {k : Int} {t : List UInt8} {n : Int} {len : Nat} (h : tok c r = .ok (k, t, n, len)) : (k = 1 ∨ k = 2 ∨ k = 3 ∨ k = 4) ∧ (k ≠ 3 → t = (c :: r).take len ∧ t.length = len) := by
  unfold tok at h
  split at h
  · split at h
    · cases h
    · simp at h
      obtain ⟨rfl, rfl, rfl, rfl⟩ := h
      refine ⟨.inl rfl, fun _ => ⟨?_, by simp [runL]; omega⟩⟩
      rw [runL_take, show 1 + runL isNam r = runL isNam r + 1 by omega]
      rfl
  · split at h
    · split at h
      · cases h
      · split at h
        · simp at h
          obtain ⟨rfl, rfl, rfl, rfl⟩ := h
          refine ⟨.inr (.inl rfl), fun _ => ⟨?_, by simp [runL]; omega⟩⟩
          rw [runL_take, show 1 + runL isDig r = runL isDig r + 1 by omega]
          rfl
        · cases h
    · split at h
      · split at h
        · cases h
        · split at h
          · cases h
          · simp at h
            obtain ⟨rfl, rfl, rfl, rfl⟩ := h
            exact ⟨.inr (.inr (.inl rfl)), fun e => absurd rfl e⟩
      · split at h
        · simp at h
          obtain ⟨rfl, rfl, rfl, rfl⟩ := h
          exact ⟨.inr (.inr (.inr rfl)), fun _ => ⟨rfl, rfl⟩⟩
        · cases h
/-- Where the words stand: each from off on, each in the text. -/
def Placed (l : List UInt8) (off : Nat) : List Wd → Prop
  | [] => False
  | [w] => w.k = 5 ∧ w.t = [] ∧ w.a = off + l.length
  | w :: v :: ws => w.k ≠ 5 ∧ off ≤ w.a ∧ w.a < off + l.length ∧ (w.k ≠ 3 → (l.drop (w.a - off)).take w.t.length = w.t ∧ w.a + w.t.length ≤ off + l.length) ∧ w.a < v.a ∧ Placed l off (v :: ws)
theorem lex_ne : ∀ (f off : Nat) (l : List UInt8) (ws : List Wd), lexF f off l = .ok ws → ∃ v vs, ws = v :: vs ∧ off ≤ v.a
  | 0, _, _, _, h => by simp [lexF] at h
  | f + 1, off, l, ws, h => by
    simp only [lexF] at h
    cases hd : l.dropWhile isBl with
    | nil =>
      rw [hd] at h
      simp at h
      exact ⟨_, _, h.symm, by simp⟩
    | cons c r =>
      rw [hd] at h
      cases ht : tok c r with
      | error e => simp [ht] at h
      | ok x =>
        obtain ⟨k, t, n, len⟩ := x
        simp only [ht] at h
        cases hr : lexF f (off + runL isBl l + len) ((c :: r).drop len) with
        | error e => simp [hr] at h
        | ok ws' =>
          simp only [hr] at h
          simp at h
          exact ⟨_, _, h.symm, by simp⟩
/-- Placed in a rest is placed in the whole. -/
theorem Placed.widen {l m : List UInt8} {off b : Nat} (hm : l.drop b = m) (hb : b ≤ l.length) : ∀ (ws : List Wd), (∀ w ∈ ws, off + b ≤ w.a) → Placed m (off + b) ws → Placed l off ws
  | [], _, h => h
  | [w], _, h => by
    obtain ⟨h1, h2, h3⟩ := h
    refine ⟨h1, h2, ?_⟩
    rw [h3, ← hm, List.length_drop]
    omega
  | w :: v :: ws, ha, h => by
    obtain ⟨h1, h2, h3, h4, h5, h6⟩ := h
    have hml : m.length = l.length - b := by rw [← hm, List.length_drop]
    refine ⟨h1, by omega, by omega, fun hk => ?_, h5, Placed.widen hm hb (v :: ws) (fun x hx => ha x (by simp [hx])) h6⟩
    obtain ⟨h7, h8⟩ := h4 hk
    refine ⟨?_, by omega⟩
    rw [← hm, List.drop_drop] at h7
    rw [show w.a - off = b + (w.a - (off + b)) by omega]
    exact h7
theorem lex_above : ∀ (f off : Nat) (l : List UInt8) (ws : List Wd), lexF f off l = .ok ws → ∀ w ∈ ws, off ≤ w.a
  | 0, _, _, _, h => by simp [lexF] at h
  | f + 1, off, l, ws, h => by
    simp only [lexF] at h
    cases hd : l.dropWhile isBl with
    | nil =>
      rw [hd] at h
      simp at h
      subst h
      intro w hw
      simp at hw
      subst hw
      simp
    | cons c r =>
      rw [hd] at h
      cases ht : tok c r with
      | error e => simp [ht] at h
      | ok x =>
        obtain ⟨k, t, n, len⟩ := x
        simp only [ht] at h
        cases hr : lexF f (off + runL isBl l + len) ((c :: r).drop len) with
        | error e => simp [hr] at h
        | ok ws' =>
          have ih := lex_above f _ _ ws' hr
          simp only [hr] at h
          simp at h
          subst h
          intro w hw
          rcases List.mem_cons.1 hw with rfl | hw
          · simp
          · have := ih w hw
            omega
theorem lex_placed : ∀ (f off : Nat) (l : List UInt8) (ws : List Wd), l.length < f → lexF f off l = .ok ws → Placed l off ws
  | 0, _, _, _, hf, h => by omega
  | f + 1, off, l, ws, hf, h => by
    simp only [lexF] at h
    have hbl := runL_le isBl l
    cases hd : l.dropWhile isBl with
    | nil =>
      rw [hd] at h
      simp at h
      subst h
      have hz : runL isBl l = l.length := by
        rw [runL_drop] at hd
        have := List.drop_eq_nil_iff.1 hd
        omega
      exact ⟨rfl, rfl, by simp [hz]⟩
    | cons c r =>
      rw [hd] at h
      have hdl : l.drop (runL isBl l) = c :: r := by rw [← runL_drop]; exact hd
      have hll := congrArg List.length hdl
      rw [List.length_drop] at hll
      simp only [List.length_cons] at hll
      cases ht : tok c r with
      | error e => simp [ht] at h
      | ok x =>
        obtain ⟨k, t, n, len⟩ := x
        have hlen := tok_len ht
        obtain ⟨hk, htt⟩ := tok_text ht
        simp only [ht] at h
        cases hr : lexF f (off + runL isBl l + len) ((c :: r).drop len) with
        | error e => simp [hr] at h
        | ok ws' =>
          have ih := lex_placed f _ _ ws' (by simp; omega) hr
          have hab := lex_above f _ _ ws' hr
          obtain ⟨v, vs, hv, hva⟩ := lex_ne f _ _ ws' hr
          simp only [hr] at h
          simp at h
          subst h
          subst hv
          refine ⟨by simp only; omega, by simp, by simp only; omega, fun hk3 => ?_, by simp only; omega, ?_⟩
          · obtain ⟨h1, h2⟩ := htt hk3
            simp only at hk3 ⊢
            refine ⟨?_, by omega⟩
            rw [show off + runL isBl l - off = runL isBl l by omega, hdl, h2]
            exact h1.symm
          · have hm : l.drop (runL isBl l + len) = (c :: r).drop len := by rw [← hdl, List.drop_drop]
            refine Placed.widen hm (by omega) (v :: vs) ?_ ?_
            · intro w hw
              have := hab w hw
              omega
            · rw [← Nat.add_assoc]
              exact ih
end Go.Proofs.YtkjfecpfjfkpnaaDoor.Lex
