/- Layer 17: what Words answers, by cases; awake, walked. -/
import Derived.Test.YtkjfecpfjfkpnaaDoorLexD
import Derived.Test.YtkjfecpfjfkpnaaDoorLexR
namespace Go.Proofs.YtkjfecpfjfkpnaaDoor.Lex
open Go.Lib (parseIntB)
open Go.RowKit Go.Proofs.YtkjfecpfjfkpnaaDoorW.PrintWords Go.Proofs.YtkjfecpfjfkpnaaDoorW.PrintLast Go.Proofs.YtkjfecpfjfkpnaaDoorW.PrintMore Go.Proofs.YtkjfecpfjfkpnaaDoor.Sl Go.Proofs.YtkjfecpfjfkpnaaDoor.Str
set_option linter.unusedVariables false
set_option linter.unusedSimpArgs false
theorem tok_err {c : UInt8} {r : List UInt8} {e : Int} (h : tok c r = .error e) : e ≠ 0 := by
  unfold tok at h
  split at h
  · split at h
    · simp at h; omega
    · cases h
  · split at h
    · split at h
      · simp at h; omega
      · split at h
        · cases h
        · simp at h; omega
    · split at h
      · split at h
        · simp at h; omega
        · split at h
          · simp at h; omega
          · cases h
      · split at h
        · cases h
        · simp at h; omega
theorem lex_err : ∀ (f off : Nat) (l : List UInt8) (p : Nat) (e : Int), l.length < f → lexF f off l = .error (p, e) → e ≠ 0 ∧ p ≤ off + l.length
  | 0, _, _, _, _, h, _ => by omega
  | f + 1, off, l, p, e, hf, h => by
    simp only [lexF] at h
    have hbl := runL_le isBl l
    cases hd : l.dropWhile isBl with
    | nil => rw [hd] at h; cases h
    | cons c r =>
      rw [hd] at h
      have hdl : l.drop (runL isBl l) = c :: r := by rw [← runL_drop]; exact hd
      have hll := congrArg List.length hdl
      rw [List.length_drop] at hll
      simp only [List.length_cons] at hll
      cases ht : tok c r with
      | error e' =>
        simp only [ht] at h
        simp at h
        obtain ⟨rfl, rfl⟩ := h
        exact ⟨tok_err ht, by omega⟩
      | ok x =>
        obtain ⟨k, t, n, len⟩ := x
        have hlen := tok_len ht
        simp only [ht] at h
        cases hr : lexF f (off + runL isBl l + len) ((c :: r).drop len) with
        | error x =>
          obtain ⟨p', e'⟩ := x
          have ih := lex_err f _ _ p' e' (by simp; omega) hr
          simp only [hr] at h
          simp at h
          obtain ⟨rfl, rfl⟩ := h
          simp at ih
          exact ⟨ih.1, by omega⟩
        | ok ws' => simp only [hr] at h; cases h
theorem words_cases (l : List UInt8) : (∃ p e, wordsP l = ([], p, e) ∧ e ≠ 0 ∧ p ≤ l.length) ∨ ∃ ws, wordsP l = (ws, 0, 0) ∧ lexL 0 l = .ok ws ∧ l.length ≤ 1024 := by
  unfold wordsP
  by_cases h : l.length > 1024
  · rw [if_pos h]; exact .inl ⟨0, 30, rfl, by decide, Nat.zero_le _⟩
  · rw [if_neg h]
    cases hl : lexL 0 l with
    | error x =>
      obtain ⟨p, e⟩ := x
      have := lex_err _ _ _ p e (by omega) hl
      exact .inl ⟨p, e, rfl, this.1, by omega⟩
    | ok ws => exact .inr ⟨ws, rfl, rfl, by omega⟩
/-- Words, its answer known. -/
theorem words_call (s : ByteArray) (ws : List Wd) (p : Nat) (e : Int) (h : wordsP s.toList = (ws, p, e)) :
    Fun Tryd.prog 6 #[.string s] Vars [] (fun v => [HP.ex fun u : Value => HP.and (v = .tuple #[u, .int .i64 (p : Int), .int .i64 e]) (HP.row kWd 28 u ws)]) := by
  have := words_fun s
  rw [h] at this
  exact this
theorem wd_cells {w0 w : World} {S0 : Nat → Prop} {F : List HP} {g n c : Nat} {xs : List Wd} (h : St w0 S0 w (HP.row kWd 28 (.slice (some ⟨g, 0, none⟩) n c) xs :: F)) (j : Nat) (hj : j < xs.length) :
    w.cell? ⟨g, j * 4, none⟩ = some (.int .i64 xs[j].k) ∧ w.cell? ⟨g, j * 4 + 1, none⟩ = some (.int .i64 (xs[j].a : Int)) ∧ w.cell? ⟨g, j * 4 + 2, none⟩ = some (.string (ba xs[j].t)) ∧ w.cell? ⟨g, j * 4 + 3, none⟩ = some (.int .i64 xs[j].n) := by
  obtain ⟨hn, hc, hC⟩ := St.row_reads h
  obtain ⟨ad, e, hcs⟩ := hC.2.2 (by omega)
  obtain rfl : ad = ⟨g, 0, none⟩ := by simpa using e.symm
  obtain ⟨cs, hl, hK, hcc⟩ := hcs j xs[j] (List.getElem?_eq_getElem hj)
  obtain rfl := kWd_open hK
  have e0 := hcc 0 _ rfl
  have e1 := hcc 1 _ rfl
  have e2 := hcc 2 _ rfl
  have e3 := hcc 3 _ rfl
  rw [add_plain] at e0 e1 e2 e3
  exact ⟨e0, e1, e2, e3⟩
def awakeW : List Wd := [⟨1, 0, [97], 0⟩, ⟨4, 1, [61], 0⟩, ⟨2, 2, [45, 48, 55], -7⟩, ⟨4, 5, [59], 0⟩, ⟨3, 6, [105, 116, 39, 115], 0⟩, ⟨5, 13, [], 0⟩]
theorem awake1 : wordsP [97, 61, 45, 48, 55, 59, 39, 105, 116, 39, 39, 115, 39] = (awakeW, 0, 0) := by rfl
theorem awake2 : wordsP [97, 32, 63] = ([], 2, 170) := by rfl
set_option maxHeartbeats 8000000 in
set_option maxRecDepth 40000 in
theorem awake_fun : FunV Tryd.prog 7 #[] Vars [] (.bool true) [] := by
  intro w S hS hR
  have HS := St.start hS
  have HR := Aside0.mk hR
  clear hS hR
  have huS := Tryd.underlying22
  have huW := Tryd.underlying28
  have h1 := words_call ⟨#[97, 61, 45, 48, 55, 59, 39, 105, 116, 39, 39, 115, 39]⟩ awakeW 0 0 (by rw [toList_eq]; exact awake1)
  have h2 := words_call ⟨#[97, 32, 63]⟩ [] 2 170 (by rw [toList_eq]; exact awake2)
  have H1 := Aside0.mk h1
  have H2 := Aside0.mk h2
  clear h1 h2
  go_enter Tryd.func7, Tryd.ntmps7
  go_wp2_with fail
  refine (H1.out.call (F := []) HS (fun w' _ e _ => HR.out w' e)).mono ?_
  rintro e_ w1 ⟨v_, rfl, HS_⟩
  clear HS
  obtain ⟨u, HS_⟩ := St.ex_ HS_
  obtain ⟨rfl, HS⟩ := St.and_ HS_
  clear HS_
  obtain ⟨g, c, rfl⟩ := St.row_form HS (by decide)
  have HS : St w S w1 [HP.row kWd 28 (.slice (some ⟨g, 0, none⟩) 6 c) awakeW] := HS
  go_wp2_with fail
  refine (H2.out.call (F := [HP.row kWd 28 (.slice (some ⟨g, 0, none⟩) 6 c) awakeW]) HS (fun w' _ e _ => HR.out w' e)).mono ?_
  rintro e_ w2 ⟨v_, rfl, HS_⟩
  clear HS
  obtain ⟨u2, HS_⟩ := St.ex_ HS_
  obtain ⟨rfl, HS2⟩ := St.and_ HS_
  clear HS_
  have HS := (HS2.mv 1)
  have HS : St w S w2 [HP.row kWd 28 (.slice (some ⟨g, 0, none⟩) 6 c) awakeW, HP.row kWd 28 u2 []] := HS
  have c2 := wd_cells HS 2 (by decide)
  have c4 := wd_cells HS 4 (by decide)
  have c5 := wd_cells HS 5 (by decide)
  obtain ⟨a0, a1, a2, a3⟩ : w2.cell? ⟨g, 8, none⟩ = some (.int .i64 2) ∧ w2.cell? ⟨g, 9, none⟩ = some (.int .i64 2) ∧ w2.cell? ⟨g, 10, none⟩ = some (.string ⟨#[45, 48, 55]⟩) ∧ w2.cell? ⟨g, 11, none⟩ = some (.int .i64 (-7)) := c2
  obtain ⟨-, -, b2, -⟩ : _ ∧ _ ∧ w2.cell? ⟨g, 18, none⟩ = some (.string ⟨#[105, 116, 39, 115]⟩) ∧ _ := c4
  obtain ⟨d0, d1, d2, d3⟩ : w2.cell? ⟨g, 20, none⟩ = some (.int .i64 5) ∧ w2.cell? ⟨g, 21, none⟩ = some (.int .i64 13) ∧ w2.cell? ⟨g, 22, none⟩ = some (.string ⟨#[]⟩) ∧ w2.cell? ⟨g, 23, none⟩ = some (.int .i64 0) := c5
  have hl6 : (6 : Nat) ≤ c := (St.row_reads HS).2.1
  go_wp2_with fail
  go_ret
  exact ⟨rfl, (HS.out 0).out 0⟩
end Go.Proofs.YtkjfecpfjfkpnaaDoor.Lex
