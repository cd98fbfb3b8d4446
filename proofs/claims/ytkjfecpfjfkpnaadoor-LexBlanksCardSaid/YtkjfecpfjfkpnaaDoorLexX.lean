/- Layer 17: while, word, walked. -/
import Derived.Test.YtkjfecpfjfkpnaaDoorLexW
namespace Go.Proofs.YtkjfecpfjfkpnaaDoor.Lex
open Go.Lib (parseIntB)
open Go.RowKit Go.Proofs.YtkjfecpfjfkpnaaDoorW.PrintWords Go.Proofs.YtkjfecpfjfkpnaaDoorW.PrintLast Go.Proofs.YtkjfecpfjfkpnaaDoorW.PrintMore Go.Proofs.YtkjfecpfjfkpnaaDoor.Sl Go.Proofs.YtkjfecpfjfkpnaaDoor.Str
open Go.Proofs.YtkjfecpfjfkpnaaDoor.Val (isDig)
set_option linter.unusedVariables false
set_option linter.unusedSimpArgs false
theorem runL_cons (p : UInt8 → Bool) (c : UInt8) (r : List UInt8) : runL p (c :: r) = if p c then runL p r + 1 else 0 := by
  unfold runL
  by_cases h : p c = true <;> simp [h]
theorem drop_at (s : ByteArray) (k : Nat) (h : k < s.size) : s.toList.drop k = s[k] :: s.toList.drop (k + 1) := by
  have hl : k < s.toList.length := by rw [size_toList]; exact h
  rw [List.drop_eq_getElem_cons hl]
  congr 1
  simp only [toList_eq]
  rfl
set_option maxHeartbeats 4000000 in
set_option maxRecDepth 20000 in
theorem while_fun (f : FuncId) (p : UInt8 → Bool) (hen : ∀ (args : Array Value) (w : World), (callFunc f args).run Tryd.prog w = .ok (.enter f args) w)
    (hf : ∀ (c : UInt8) (w : World), Calls Tryd.prog f #[.int .u8 (c.toNat : Int)] w fun e w' => e = .returned (.bool (p c)) ∧ w' = w) (g : Nat) (s : ByteArray) (hs : s.size ≤ 1000000) (at_ : Int) (i0 : Nat) (hi : i0 ≤ s.size) (e0 : Nat) (he : i0 + runL p (s.toList.drop i0) = e0) :
    FunV Tryd.prog 9 #[.pointer (some ⟨g, 0, none⟩), .int .i64 (i0 : Int), fvc f #[]] (fun _ => True) [HP.obj g 37 [.string s, .int .i64 at_]] (.int .i64 (e0 : Int)) [HP.obj g 37 [.string s, .int .i64 at_]] := by
  intro w S hS hR
  have HS := St.start hS
  have HN := Aside0.mk hen
  have HF := Aside0.mk hf
  have HE0 := Aside0.mk he
  clear hS hR hen hf he
  have hu := Tryd.underlying37
  go_enter Tryd.func9, Tryd.ntmps9
  go_wp2_with fail
  go_loopw [1] (fun v1 w' => ∃ k : Nat, k ≤ s.size ∧ v1 = .int .i64 k ∧ Aside0 (k + runL p (s.toList.drop k) = e0) ∧ St w S w' [HP.obj g 37 [.string s, .int .i64 at_]]) (fun v1 _ => s.size - (intOf v1).toNat)
  case atStart => exact ⟨i0, hi, rfl, HE0, HS⟩
  case round =>
    clear HS
    obtain ⟨k, hk, rfl, HE, HS⟩ := hrel
    have q0 := HS.cell 0
    have hk0 : (0 : Int) ≤ (k : Int) := by omega
    by_cases hlt : k < s.size
    · have hltI : (k : Int) < (s.size : Int) := by omega
      have hwk : IntKind.i64.wrap ((k : Int) + 1) = ((k + 1 : Nat) : Int) := by rw [IntWalk.i64_in _ (by omega)]; omega
      have hd := drop_at s k hlt
      obtain ⟨c, hc⟩ : ∃ c : UInt8, s[k] = c := ⟨_, rfl⟩
      rw [hc] at hd
      have hx : ∀ h : k < s.size, ((s[k]'h).toNat : Int) = (c.toNat : Int) := fun h => by rw [← hc]
      have hr := runL_cons p c (s.toList.drop (k + 1))
      rw [← hd] at hr
      have HC := Aside0.mk (HF.out c)
      have hnf := HN.out
      clear hc hd
      cases hp : p c
      · rw [hp] at HC hr
        have HR := Aside0.mk hr
        clear hp hr
        generalize (c.toNat : Int) = m at hx HC
        go_wp2_with fail
        refine (HC.out _).mono ?_
        rintro e_ w' ⟨rfl, rfl⟩
        go_wp2_with fail
        go_ret
        obtain rfl : k = e0 := by
          have h1 := HE.out
          have h2 := HR.out
          simp only [Bool.false_eq_true, if_false] at h2
          omega
        exact ⟨rfl, HS⟩
      · rw [hp] at HC hr
        have hE2 := Aside0.mk (show (k + 1) + runL p (s.toList.drop (k + 1)) = e0 by
          rw [← HE.out, hr]; simp; omega)
        clear hp hr
        generalize (c.toNat : Int) = m at hx HC
        go_wp2_with fail
        refine (HC.out _).mono ?_
        rintro e_ w' ⟨rfl, rfl⟩
        go_wp2_with fail
        go_roundw
        case rel => exact ⟨k + 1, by omega, by go_num, hE2, HS⟩
        case measure => simp [intOf]; omega
    · have hltI : ¬ (k : Int) < (s.size : Int) := by omega
      have hE2 := Aside0.mk (show k = e0 by
        rw [← HE.out, List.drop_eq_nil_of_le (by rw [size_toList]; omega)]
        simp [runL])
      go_wp2_with fail
      go_ret
      obtain rfl := hE2.out
      exact ⟨rfl, HS⟩
end Go.Proofs.YtkjfecpfjfkpnaaDoor.Lex
