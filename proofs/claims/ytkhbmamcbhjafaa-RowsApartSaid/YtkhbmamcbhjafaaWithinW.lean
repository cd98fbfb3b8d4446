/- within: has one map all that another one has? Walked. -/
import Derived.Test.YtkhbmamcbhjafaaSlAll
import Derived.Test.YtkhbmamcbhjafaaPlayP
namespace Go.Proofs.Ytkhbmamcbhjafaa.Keys
open Go.RowKit Go.Proofs.YtkhbmamcbhjafaaW.PrintWords Go.Proofs.YtkhbmamcbhjafaaW.PrintLast Go.Proofs.YtkhbmamcbhjafaaW.PrintMore Go.Proofs.Ytkhbmamcbhjafaa.Str Go.Proofs.Ytkhbmamcbhjafaa.PRef Go.Proofs.Ytkhbmamcbhjafaa.Stands Go.Proofs.Ytkhbmamcbhjafaa.Sl
set_option linter.unusedVariables false
set_option linter.unusedSimpArgs false
theorem strKey : ∀ k : ByteArray, MapKept.IsKey .string (Value.string k) := fun _ => trivial
theorem strInj : ∀ a b : ByteArray, Value.string a = Value.string b → a = b := fun a b h => by injection h
theorem zeroB (w : World) : (zeroValue 4).run Try.prog w = .ok (.bool false) w := by kernel_rfl
abbrev MP (g : Nat) (m : Ents) : HP := Sl.map g .string Value.string Value.bool m
abbrev RP (g r : Nat) (m l : Ents) : HP := Sl.ranging g r .string Value.string Value.bool m l
set_option maxHeartbeats 2000000 in
set_option maxRecDepth 10000 in
theorem within_fun (ga gb : Nat) (a b : Ents) : FunV Try.prog 10 #[.map (some ga), .map (some gb)] (fun _ => True) [MP ga a, MP gb b] (.bool (inside a b)) [MP ga a, MP gb b] := by
  intro w S hS hR
  have HS := St.start hS
  clear hS hR
  have hu1 := Try.underlying26
  obtain ⟨w1, hrange, HR⟩ := HS.map_range (P := Try.prog) (t := 26) Try.underlying26
  clear HS
  go_enter Try.func10, Try.ntmps10
  go_wp2_with fail
  generalize w.heap.size = r at HR ⊢
  clear hrange
  go_loopw [5, 8] (fun _ _ w' => ∃ l : Ents, (∀ p ∈ a, p ∈ l ∨ (mget b p.1).getD false = true) ∧ St w S w' [RP ga r a l, MP gb b]) (fun _ _ w' => leftN w' ga r)
  case atStart => exact ⟨a, fun p hp => .inl hp, HR⟩
  case round =>
    obtain ⟨l, hl, Hr⟩ := hrel
    clear HR
    have hcnt := Hr.range_left
    rcases Hr.range_next (P := Try.prog) 0 with ⟨rfl, hn⟩ | ⟨l1, p, l2, w2, rfl, hpm, hn, HS, he⟩
    · have hn' : ∀ ty, (Instr.next (.pointer (some ⟨r, 0, none⟩)) false ty).run Try.prog wr = .ok (.tuple #[.bool false]) wr := fun _ => hn
      have hin : inside a b = true := by
        unfold inside
        rw [List.all_eq_true]
        intro p hp
        rcases hl p hp with h | h
        · simp at h
        · exact h
      have HS := Hr.range_over
      clear hn hl Hr hcnt
      go_wp2
      go_ret
      exact ⟨by first | rfl | (rw [hin]; rfl), HS⟩
    · have hn' : ∀ ty, (Instr.next (.pointer (some ⟨r, 0, none⟩)) false ty).run Try.prog wr = .ok (.tuple #[.bool true, .string p.1, .bool p.2]) w2 := fun _ => hn
      have hcnt2 := HS.range_left
      have hlook := ((HS.mv 1).map_look (P := Try.prog) (t := 26) (kt := 9) (et := 4) Try.underlying26 Try.underlying9 p.1 zeroB).2
      have hval : ∃ q : Bool, (mget b p.1).getD false = q ∧ oval Value.bool (.bool false) (mget b p.1) = .bool q := by
        cases mget b p.1 with
        | none => exact ⟨false, rfl, rfl⟩
        | some v => exact ⟨v, rfl, rfl⟩
      obtain ⟨q, hq1, hq2⟩ := hval
      rw [hq2] at hlook
      clear hn Hr hq2
      cases q with
      | true =>
        go_wp2
        go_roundw
        case rel => exact ⟨l1 ++ l2, fun x hx => by
          rcases hl x hx with h | h
          · rcases List.mem_append.1 h with h | h
            · exact .inl (by simp [h])
            · rcases List.mem_cons.1 h with h | h
              · exact .inr (by rw [h]; exact hq1)
              · exact .inl (by simp [h])
          · exact .inr h, HS⟩
        case measure => rw [hcnt, hcnt2]; simp
      | false =>
        have hin : inside a b = false := by
          unfold inside
          rw [List.all_eq_false]
          exact ⟨p, hpm, by rw [hq1]; decide⟩
        have HS2 := HS.range_over
        clear hl hcnt hcnt2
        go_wp2
        go_ret
        exact ⟨by first | rfl | (rw [hin]; rfl), HS2⟩
end Go.Proofs.Ytkhbmamcbhjafaa.Keys
