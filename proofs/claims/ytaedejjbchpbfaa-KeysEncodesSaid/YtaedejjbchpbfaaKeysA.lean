/- The law's awake; what a list's key says. -/
import Derived.Test.YtaedejjbchpbfaaKeysW
namespace Go.Proofs.Ytaedejjbchpbfaa.Keys
open Go.RowKit Go.Proofs.YtaedejjbchpbfaaW.PrintWords Go.Proofs.YtaedejjbchpbfaaW.PrintLast Go.Proofs.YtaedejjbchpbfaaW.PrintMore Go.Proofs.Ytaedejjbchpbfaa.Str Go.Proofs.Ytaedejjbchpbfaa.PRef Go.Proofs.Ytaedejjbchpbfaa.Stands Go.Proofs.Ytaedejjbchpbfaa.Sl
set_option linter.unusedVariables false
set_option linter.unusedSimpArgs false
def lst2 : List V := [⟨1, 1, ⟨#[]⟩⟩, ⟨2, 0, ⟨#[97]⟩⟩]
theorem awake_enc : encode lst2 = (⟨#[2, 128, 0, 0, 0, 0, 0, 0, 1, 3, 97, 0, 1]⟩, 0) := by kernel_rfl
theorem awake_dec : decode ⟨#[4]⟩ = ([], 20) := by kernel_rfl
theorem lst2_n : N64 lst2 := by
  intro v hv
  simp only [lst2, List.mem_cons, List.not_mem_nil, or_false] at hv
  unfold In64
  rcases hv with rfl | rfl <;> simp
theorem reps1 {α : Type} {R : α → List Value → Prop} {n : Nat} {x : α} {cs : List Value} (h : R x cs) (hl : cs.length = n) : Reps R n [x] cs := by
  have := (Reps.none R n).snoc h hl
  simpa using this
theorem reps2 {α : Type} {R : α → List Value → Prop} {n : Nat} {x y : α} {cs ds : List Value} (h : R x cs) (hl : cs.length = n) (k : R y ds) (kl : ds.length = n) : Reps R n [x, y] (cs ++ ds) := by
  have := (reps1 h hl).snoc k kl
  simpa using this
/-- What encodes, whatever the walk's fuel. -/
theorem encode_calls (A : Option Addr) (c : Nat) (l : List V) (hn : N64 l) (hc : l.length ≤ c) (s : ByteArray) (e : Int) (h : encode l = (s, e)) (w : World) (hC : Kd.C kV w A l.length l) :
    Calls Try.prog 9 #[.slice A l.length c] w fun x w' => x = .returned (.tuple #[.string s, .int .i64 e]) ∧ Below w.heap.size w w' :=
  keys_Encode.calls 300 A c l s e w hC hc (by rw [encode_eq l hn 300 (Nat.le_refl _), h])
theorem encode_good {l : List V} (hn : N64 l) {s : ByteArray} (h : encode l = (s, 0)) : Good l ∧ s = ⟨(encL l).toArray⟩ ∧ l.length ≤ 8 ∧ s.size ≤ 1048 := by
  unfold encode at h
  by_cases h8 : l.length > 8
  · rw [if_pos h8] at h
    simp at h
  · rw [if_neg h8] at h
    by_cases ha : l.all rightV = true
    · rw [if_pos ha] at h
      simp only [Prod.mk.injEq, and_true] at h
      refine ⟨fun v hv => ⟨List.all_eq_true.1 ha v hv, hn v hv⟩, h.symm, by omega, ?_⟩
      rw [← h, mk_size]
      have := encL_length l ha
      omega
    · rw [if_neg ha] at h
      simp at h
theorem encode_code (l : List V) : ∃ s e, encode l = (s, e) ∧ (e = 0 ∨ e = 10 ∨ e = 21) := by
  unfold encode
  by_cases h8 : l.length > 8
  · rw [if_pos h8]; exact ⟨_, _, rfl, by omega⟩
  · rw [if_neg h8]
    by_cases ha : l.all rightV = true
    · rw [if_pos ha]; exact ⟨_, _, rfl, by omega⟩
    · rw [if_neg ha]; exact ⟨_, _, rfl, by omega⟩
theorem order_fact {a b : List V} (ha : N64 a) (hb : N64 b) {s t : ByteArray} (h : encode a = (s, 0)) (k : encode b = (t, 0)) : cmpS s t = cmpVs a b := by
  obtain ⟨g1, rfl, _⟩ := encode_good ha h
  obtain ⟨g2, rfl, _⟩ := encode_good hb k
  unfold cmpS
  rw [mk_toList, mk_toList, encL_cmp a b g1 g2]
set_option maxHeartbeats 1000000 in
theorem awake_fun : FunV Try.prog 11 #[] (fun _ => True) [] (.bool true) [] := by
  intro w S hS hR
  have H := St.start hS
  clear hS hR
  have hu24 := Try.underlying24
  have hu22 := Try.underlying22
  go_enter Try.func11, Try.ntmps11
  go_wp2_with (first
    | ((with_reducible refine gate_dst (N := 8) rfl ?_); refine ev_lit kV 24 ?hg (N := 8) ?hd (xs := lst2) (inner := [.int .i64 1, .int .i64 1, .string ⟨#[]⟩, .int .i64 2, .int .i64 0, .string ⟨#[97]⟩]) H ?hr ?hp (by decide) ?_; (case hd => rfl); (case hg => rfl); (case hr => first | (go_simp; done) | (go_simp; rfl)); (case hp => exact reps2 (k24_mkM _ _ _ (⟨1, 1, ⟨#[]⟩⟩ : V)) rfl (k24_mkM _ _ _ (⟨2, 0, ⟨#[97]⟩⟩ : V)) rfl); intro v1 w1 H1; obtain ⟨A1, c1, rfl, hc1, hC1⟩ := St.row_C H1)
    | (go_at_call 9; refine (encode_calls A1 c1 lst2 lst2_n hc1 _ 0 awake_enc w1 hC1).mono ?_; rintro e w2 ⟨rfl, hb2⟩; have H2 := (H1.later hb2).out 0; clear hC1)
    | (go_at_call 13; refine ((decode_fun ⟨#[4]⟩ (by decide)).call (F := []) H2 (fun _ _ _ _ => trivial)).mono ?_; rintro e w3 ⟨v3, rfl, H3⟩; obtain ⟨u3, H4⟩ := St.ex_ H3; rw [awake_dec] at H4; obtain ⟨hv3, H5⟩ := St.and_ H4; subst hv3))
  go_ret
  exact ⟨rfl, H5.out 0⟩
end Go.Proofs.Ytaedejjbchpbfaa.Keys
