/- rows.Key and the laws' awake, walked. -/
import Derived.Test.YtkhbmamcbhjafaaChgX
import Derived.Test.YtkhbmamcbhjafaaKeysW
import Derived.Deep.QuietTactic
import Derived.BigQuiet
namespace Go.Proofs.Ytkhbmamcbhjafaa.Keys
open Go.RowKit Go.Proofs.YtkhbmamcbhjafaaW.PrintWords Go.Proofs.YtkhbmamcbhjafaaW.PrintLast Go.Proofs.YtkhbmamcbhjafaaW.PrintMore Go.Proofs.Ytkhbmamcbhjafaa.Str Go.Proofs.Ytkhbmamcbhjafaa.PRef Go.Proofs.Ytkhbmamcbhjafaa.Stands Go.Proofs.Ytkhbmamcbhjafaa.Sl
set_option linter.unusedVariables false
set_option linter.unusedSimpArgs false
attribute [local go_sem high] eqA36
def v0 : V := ⟨0, 0, ⟨#[]⟩⟩
/-- The last value of a key's list. -/
def keyA (s : ByteArray) : V × Int := match (decode s).1.getLast? with
  | some v => (v, 0)
  | none => (v0, 20)
theorem last_cells {w0 w : World} {S0 : Nat → Prop} {F : List HP} {g n c : Nat} {l : List V} (h : St w0 S0 w (HP.row kV 36 (.slice (some ⟨g, 0, none⟩) n c) l :: F)) (hp : 0 < l.length) (v : V) (hv : l.getLast? = some v) :
    w.cell? ⟨g, (l.length - 1) * 3, none⟩ = some (.int .i64 v.f0) ∧ w.cell? ⟨g, (l.length - 1) * 3 + 1, none⟩ = some (.int .i64 v.f1) ∧ w.cell? ⟨g, (l.length - 1) * 3 + 2, none⟩ = some (.string v.f2) := by
  have hf := fun i hi => flat_cell (enc := fun x : V => [.int .i64 x.f0, .int .i64 x.f1, .string x.f2]) k36_open h (l.length - 1) (Nat.sub_lt hp Nat.one_pos) i hi
  have e : l[l.length - 1]'(by omega) = v := by
    rw [List.getLast?_eq_getElem?, List.getElem?_eq_getElem (by omega)] at hv
    exact Option.some.inj hv
  rw [e] at hf
  exact ⟨hf 0 (by simp), hf 1 (by simp), hf 2 (by simp)⟩
set_option maxHeartbeats 2000000 in
set_option maxRecDepth 10000 in
theorem key_fun (s : ByteArray) (hs : s.size ≤ 140737488351232) : FunV Try.prog 22 #[.string s] (fun _ => True) [] (.tuple #[.agg #[.int .i64 (keyA s).1.f0, .int .i64 (keyA s).1.f1, .string (keyA s).1.f2], .int .i64 (keyA s).2]) [] := by
  intro w S hS hR
  have HS : St w S _ [HP.obj w.heap.size 36 [.int .i64 0, .int .i64 0, .string ⟨#[]⟩]] := ((St.start hS).alloc (.cells #[.int .i64 0, .int .i64 0, .string ⟨#[]⟩] 36)).mv 0 |>.conv (by exact fun w S ⟨S1, S2, a, b, d, s1, s2⟩ => ⟨S1, S2, a, trivial, d, s1, s2⟩)
  clear hS hR
  have hu1 := Try.underlying36
  have hu2 := Try.underlying75
  go_enter Try.func22, Try.ntmps22
  go_wp2_with fail
  generalize w.alloc (.cells #[.int .i64 0, .int .i64 0, .string ⟨#[]⟩] 36) = w1 at HS ⊢
  generalize w.heap.size = ra at HS ⊢
  refine ((decode_fun s hs).call (F := [HP.obj ra 36 [.int .i64 0, .int .i64 0, .string ⟨#[]⟩]]) HS (fun _ _ _ _ => trivial)).mono ?_
  rintro x w2 ⟨v2, rfl, H2⟩
  obtain ⟨u2, H3⟩ := St.ex_ H2
  obtain ⟨hv2, H4⟩ := St.and_ H3
  subst hv2
  obtain ⟨A5, c5, rfl, hc5, hC5⟩ := St.row_C H4
  clear H2 H3 hC5 HS
  have hr0 : w2.cell? ⟨ra, 0, none⟩ = some (.int .i64 0) := (H4.mv 1).cell 0
  have hr1 : w2.cell? ⟨ra, 1, none⟩ = some (.int .i64 0) := (H4.mv 1).cell 1
  have hr2 : w2.cell? ⟨ra, 2, none⟩ = some (.string ⟨#[]⟩) := (H4.mv 1).cell 2
  have hz0 := (H4.mv 1).unfrozen 0
  have hz1 := (H4.mv 1).unfrozen 1
  have hz2 := (H4.mv 1).unfrozen 2
  rcases decode_cases s with ⟨l, h1, h2, h3, h4⟩ | h1
  · by_cases hl : 0 < l.length
    · obtain ⟨v, hv⟩ : ∃ v, l.getLast? = some v := ⟨l[l.length - 1]'(Nat.sub_lt hl Nat.one_pos), by rw [List.getLast?_eq_getElem?, List.getElem?_eq_getElem]⟩
      have hk : keyA s = (v, 0) := by unfold keyA; rw [h1]; simp only [hv]
      rw [h1] at H4 ⊢
      have HK := Aside0.mk hk
      obtain ⟨g, cap, ev⟩ := St.row_form H4 hl
      simp only [Value.slice.injEq] at ev
      obtain ⟨rfl, _, rfl⟩ := ev
      obtain ⟨k0, k1, k2⟩ := last_cells H4 hl v hv
      have hlz : ((l.length : Int) == 0) = false := by rw [beq_eq_false_iff_ne]; omega
      have hw5 : IntKind.i64.wrap ((l.length : Int) - 1) = (l.length : Int) - 1 := IntWalk.i64_in _ (by omega)
      have hn7 : ((l.length : Int) - 1).toNat = l.length - 1 := by omega
      have hn8 : (0 : Int) ≤ (l.length : Int) - 1 := by omega
      have hn9 : (l.length : Int) - 1 < (l.length : Int) := by omega
      have Hs := (((H4.mv 1).set 0 (.int .i64 v.f0)).set 1 (.int .i64 v.f1)).set 2 (.string v.f2)
      clear h1 h2 hk hv
      go_wp2
      exact bodyPost_ret (results_ct rfl _ _ ra 36 #[.int .i64 v.f0, .int .i64 v.f1, .string v.f2] (0, 0) _ rfl Hs.blk Try.underlying36 rfl (by kernel_rfl)) rfl ⟨by rw [HK.out]; rfl, (Hs.out 0).out 0⟩
    · have hl0 : l = [] := List.eq_nil_of_length_eq_zero (by omega)
      subst hl0
      have hk : keyA s = (v0, 20) := by unfold keyA; rw [h1]; rfl
      rw [h1] at H4 ⊢
      have HK := Aside0.mk hk
      have Hs := (((H4.mv 1).set 0 (.int .i64 0)).set 1 (.int .i64 0)).set 2 (.string ⟨#[]⟩)
      clear h1 h2 hk
      go_wp2
      exact bodyPost_ret (results_ct rfl _ _ ra 36 #[.int .i64 0, .int .i64 0, .string ⟨#[]⟩] (0, 0) _ rfl Hs.blk Try.underlying36 rfl (by kernel_rfl)) rfl ⟨by rw [HK.out]; rfl, (Hs.out 0).out 0⟩
  · have hk : keyA s = (v0, 20) := by unfold keyA; rw [h1]; rfl
    rw [h1] at H4 ⊢
    have HK := Aside0.mk hk
    have Hs := (((H4.mv 1).set 0 (.int .i64 0)).set 1 (.int .i64 0)).set 2 (.string ⟨#[]⟩)
    clear h1 hk
    go_wp2
    exact bodyPost_ret (results_ct rfl _ _ ra 36 #[.int .i64 0, .int .i64 0, .string ⟨#[]⟩] (0, 0) _ rfl Hs.blk Try.underlying36 rfl (by kernel_rfl)) rfl ⟨by rw [HK.out]; rfl, (Hs.out 0).out 0⟩
end Go.Proofs.Ytkhbmamcbhjafaa.Keys
