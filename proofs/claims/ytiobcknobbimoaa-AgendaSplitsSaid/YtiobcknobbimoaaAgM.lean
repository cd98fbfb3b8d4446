/- Calls of *queue through heap.Interface: where they lead. -/
import Derived.Test.YtiobcknobbimoaaSlIns
import Derived.Test.YtiobcknobbimoaaProg
import Derived.WalkLawsBesides
import Derived.ChangeKeysEq
namespace Go.Proofs.Ytiobcknobbimoaa.Ag
open Go.RowKit Go.Proofs.YtiobcknobbimoaaW.PrintWords Go.Proofs.YtiobcknobbimoaaW.PrintLast Go.Proofs.YtiobcknobbimoaaW.PrintMore Go.Proofs.Ytiobcknobbimoaa.Sl
theorem loadQ (g : Nat) (w : World) (v : Value) (h : w.cell? ⟨g, 0, none⟩ = some v) : (loadVar 51 ⟨g, 0, none⟩).run Try.prog w = .ok v w := by
  have hu := Try.underlying51
  go_simp
theorem m_val (name : String) (f : FuncId) (a : Addr) (w : World) (v : Value) (hw : (loadVar 51 a).run Try.prog w = .ok v w)
    (hk : (Try.prog.info? 59).map (fun i => (i.methods.find? (·.name == name)).map (fun m => (m.path.toList, m.func))) = some (some ([], some (f, false)))) :
    (method 188 59 (.pointer (some a)) name).run Try.prog w = .ok (f, v) w := by
  have hu := Try.underlying59
  cases hi : Try.prog.info? 59 with
  | none => rw [hi] at hk; cases hk
  | some i =>
    rw [hi] at hk
    simp only [Option.map_some, Option.some.injEq] at hk
    obtain ⟨m, hm, hp⟩ := Option.map_eq_some_iff.1 hk
    obtain ⟨hp, hf⟩ := Prod.mk.inj hp
    have hpe : m.path.isEmpty = true := by
      have : m.path = #[] := Array.toList_inj.1 hp
      rw [this]; rfl
    rw [show (188 : Nat) = 187 + 1 from rfl, method]
    have hs : ∀ (s1 s2 : String) w, (Builtin.ssaWrapNilChk_ #[59] 59 #[.pointer (some a), strVal s1, strVal s2]).run Try.prog w = .ok (.pointer (some a)) w := fun _ _ _ => rfl
    rw [Sem.run_bind, run_typeInfo _ hi, Result.andThen_ok, hm]
    simp only [hp, follow, hf, Sem.run_bind, Sem.run_pure, Result.andThen_ok, receiverAt, run_underlying hu, Place.get, hpe, if_true, hs]
    have ha : ∀ w, (asAddr (.pointer (some a))).run Try.prog w = .ok a w := fun _ => rfl
    simp only [ha, Result.andThen_ok, hw]
theorem m_less (g : Nat) (w : World) (v : Value) (h : w.cell? ⟨g, 0, none⟩ = some v) : (method 188 59 (.pointer (some ⟨g, 0, none⟩)) "Less").run Try.prog w = .ok (44, v) w := m_val "Less" 44 _ w v (loadQ g w v h) (by kernel_rfl)
theorem m_len (g : Nat) (w : World) (v : Value) (h : w.cell? ⟨g, 0, none⟩ = some v) : (method 188 59 (.pointer (some ⟨g, 0, none⟩)) "Len").run Try.prog w = .ok (43, v) w := m_val "Len" 43 _ w v (loadQ g w v h) (by kernel_rfl)
theorem m_swap (g : Nat) (w : World) (v : Value) (h : w.cell? ⟨g, 0, none⟩ = some v) : (method 188 59 (.pointer (some ⟨g, 0, none⟩)) "Swap").run Try.prog w = .ok (45, v) w := m_val "Swap" 45 _ w v (loadQ g w v h) (by kernel_rfl)
theorem m_push (a : Addr) (w : World) : (method 188 59 (.pointer (some a)) "Push").run Try.prog w = .ok (50, .pointer (some a)) w := by kernel_rfl
theorem m_pop (a : Addr) (w : World) : (method 188 59 (.pointer (some a)) "Pop").run Try.prog w = .ok (49, .pointer (some a)) w := by kernel_rfl
end Go.Proofs.Ytiobcknobbimoaa.Ag
