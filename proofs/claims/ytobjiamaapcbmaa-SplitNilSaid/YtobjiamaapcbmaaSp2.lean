import Derived.Test.YtobjiamaapcbmaaSp
import Derived.WalkLawsBesides
import Derived.WalkSpells
namespace Go.Proofs.Ytobjiamaapcbmaa.Sp
open Go.RowKit Go.Proofs.YtobjiamaapcbmaaW.PrintWords Go.Proofs.YtobjiamaapcbmaaW.PrintLast Go.Proofs.YtobjiamaapcbmaaW.PrintMore
set_option linter.unusedVariables false
set_option linter.unusedSimpArgs false

def leq (b key : ByteArray) : Bool := Op.bytesLess b.toList key.toList || b.toList == key.toList
def cnt (key : ByteArray) : List ByteArray → Nat
  | [] => 0
  | b :: l => (if leq b key = true then 1 else 0) + cnt key l
theorem cnt_le (key : ByteArray) : ∀ l, cnt key l ≤ l.length
  | [] => Nat.le_refl _
  | b :: l => by have := cnt_le key l; simp only [cnt, List.length_cons]; split <;> omega
theorem cnt_snoc (key b : ByteArray) : ∀ l, cnt key (l ++ [b]) = cnt key l + (if leq b key = true then 1 else 0)
  | [] => by simp [cnt]
  | x :: l => by simp only [List.cons_append, cnt, cnt_snoc key b l]; omega
theorem take_one {α : Type} (d : α) (l : List α) (k : Nat) (h : k < l.length) : l.take (k + 1) = l.take k ++ [l.getD k d] := by
  rw [List.take_succ_eq_append_getElem h, List.getD_eq_getElem?_getD, List.getElem?_eq_getElem h]; rfl

set_option maxHeartbeats 400000 in
theorem find_some (w : World) (p : Addr) (A : Option Addr) (c : Nat) (l : List ByteArray) (key : ByteArray) (hl : l.length ≤ 140737488355328) (hp : w.cell? p = some (.slice A l.length c)) (hr : Kd.C Kd.string w A l.length l) :
    Calls Try.prog 13 #[.pointer (some p), .string key] w fun e w' => e = .returned (.int .i64 (cnt key l)) ∧ w' = w := by
  have HR := Aside0.mk hr
  clear hr
  go_enter Try.func13, Try.ntmps13
  go_wp2
  go_loop [5, 15] (fun n i => ∃ k : Nat, k ≤ l.length ∧ i = .int .i64 k ∧ n = .int .i64 (cnt key (l.take k))) (fun _ i => l.length - (intOf i).toNat)
  case atStart => exact ⟨0, Nat.zero_le _, rfl, rfl⟩
  case round =>
    obtain ⟨k, hk, rfl, rfl⟩ := hrel
    have hc := cnt_le key (l.take k)
    have hc2 : (l.take k).length ≤ k := List.length_take_le _ _
    by_cases hlt : k < l.length
    · obtain ⟨ad, rfl, hx⟩ := Kd.at_string HR.out k (by omega) (by omega)
      have hs := cnt_snoc key (l.getD k ByteArray.empty) (l.take k)
      rw [← take_one _ _ _ hlt] at hs
      rw [Int.toNat_natCast] at hx
      change w.cell? _ = some (Value.string (l.getD k ByteArray.empty)) at hx
      generalize l.getD k ByteArray.empty = b at hx hs
      have HS := Aside0.mk hs
      clear hs
      by_cases hb : leq b key = true
      · have hb' : (Op.bytesLess b.toList key.toList || b.toList == key.toList) = true := hb
        go_wp2
        go_round
        case rel => exact ⟨k + 1, by omega, by go_num, by rw [HS.out, if_pos hb]; go_num⟩
        case measure => simp [intOf]; omega
      · have hb' : (Op.bytesLess b.toList key.toList || b.toList == key.toList) = false := by simpa [leq] using hb
        go_wp2
        go_round
        case rel => exact ⟨k + 1, by omega, by go_num, by rw [HS.out, if_neg hb]; go_num⟩
        case measure => simp [intOf]; omega
    · go_wp2
      go_ret
      exact ⟨by rw [List.take_of_length_le (by omega)]; rfl, rfl⟩
end Go.Proofs.Ytobjiamaapcbmaa.Sp
