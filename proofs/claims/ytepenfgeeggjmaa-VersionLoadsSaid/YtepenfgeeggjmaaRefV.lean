/- The document's comparison of hits, and its word for 'inside a span': over the printed texts. -/
import Derived.Test.YtepenfgeeggjmaaPastP
import Derived.Test.YtepenfgeeggjmaaPRefx3
import Derived.Test.YtepenfgeeggjmaaStands
namespace Go.Proofs.Ytepenfgeeggjmaa.Ver
open Go.RowKit Go.Proofs.YtepenfgeeggjmaaW.PrintWords Go.Proofs.YtepenfgeeggjmaaW.PrintLast Go.Proofs.YtepenfgeeggjmaaW.PrintMore Go.Proofs.Ytepenfgeeggjmaa.Sl Go.Proofs.Ytepenfgeeggjmaa.Str Go.Proofs.Ytepenfgeeggjmaa.Row Go.Proofs.Ytepenfgeeggjmaa.PRef
set_option linter.unusedVariables false
set_option linter.unusedSimpArgs false
def toHt (x : Ht) : S39 := ⟨x.key, x.ts, x.val⟩
theorem sameHits_at (l : List S39) (hl : l.length ≤ 140737488355328) : ∀ (d i k : Nat), l.length - i = d → d < k → i ≤ l.length → lintelref12_SameHits.l0 k l l (i : Int) = some true := by
  intro d
  induction d with
  | zero =>
    intro i k hd hk hi
    obtain ⟨k, rfl⟩ : ∃ m, k = m + 1 := ⟨k - 1, by omega⟩
    simp only [lintelref12_SameHits.l0]
    rw [if_neg (by omega)]
  | succ d ih =>
    intro i k hd hk hi
    obtain ⟨k, rfl⟩ : ∃ m, k = m + 1 := ⟨k - 1, by omega⟩
    simp only [lintelref12_SameHits.l0]
    rw [if_pos (by omega), if_pos (by omega), if_pos (by omega), if_neg (by simp), show wrap64 ((i : Int) + 1) = ((i + 1 : Nat) : Int) by unfold wrap64; omega]
    exact ih (i + 1) k (by omega) (by omega) (by omega)
theorem sameHits_self (l : List S39) (hl : l.length ≤ 140737488355328) : lintelref12_SameHits.f (l.length + 1) l l = some true := by
  unfold lintelref12_SameHits.f
  rw [if_pos rfl]
  exact sameHits_at l hl l.length 0 _ (by omega) (by omega) (by omega)
/-- Two rows of the same hits. -/
theorem sameHits_fun (u v : Value) (xs : List Ht) (hl : xs.length ≤ 140737488355328) :
    FunV Try.prog 12 #[u, v] (fun _ => True) [HP.row kHt 39 u xs, HP.row kHt 39 v xs] (.bool true) [HP.row kHt 39 u xs, HP.row kHt 39 v xs] := by
  intro w S hS hR
  have HS := St.start hS
  obtain ⟨A0, c0, rfl, hc0, hC0⟩ := St.row_C HS
  obtain ⟨A1, c1, rfl, hc1, hC1⟩ := St.row_C (HS.mv 1)
  have e0 := C_iso (f' := fun x : S39 => (x.f0, x.f1, x.f2)) (g := toHt) (fun _ => rfl) hC0
  have e1 := C_iso (f' := fun x : S39 => (x.f0, x.f1, x.f2)) (g := toHt) (fun _ => rfl) hC1
  have hln : (xs.map toHt).length = xs.length := List.length_map _
  have := lintelref12_SameHits.calls _ A0 c0 (xs.map toHt) A1 c1 (xs.map toHt) true w (by rw [hln]; exact e0) (by rw [hln]; exact hc0) (by rw [hln]; exact e1) (by rw [hln]; exact hc1) (sameHits_self _ (by rw [hln]; exact hl))
  rw [hln] at this
  exact this.mono (fun e w' ⟨he, hd⟩ => ⟨he, HS.drawn hd⟩)
theorem within_calls (k a b : ByteArray) (hk : k.size ≤ 140737488355328) (ha : a.size ≤ 140737488355328) (w : World) : Calls Try.prog 13 #[.string k, .agg #[.string a, .string b]] w fun e w' => e = .returned (.bool (inside k a b)) ∧ Below w.heap.size w w' := by
  refine lintelref12_Within.calls (2 * (a.size + k.size) + 2) k a b _ w ?_
  unfold lintelref12_Within.f
  rw [Stands.stands a k ha _ (by omega), Stands.stands k b hk _ (by omega)]
  unfold inside
  by_cases h : cmpS a k ≤ 0
  · simp [h]
  · simp [h]
end Go.Proofs.Ytepenfgeeggjmaa.Ver
