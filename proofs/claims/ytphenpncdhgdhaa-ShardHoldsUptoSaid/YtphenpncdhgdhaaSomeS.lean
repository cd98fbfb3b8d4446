/- A store whatever lies where: its calls. -/
import Derived.Test.YtphenpncdhgdhaaSpanW
import Derived.Test.YtphenpncdhgdhaaRowsW
import Derived.Test.YtphenpncdhgdhaaCloneW
import Derived.Test.YtphenpncdhgdhaaKeptP
namespace Go.Proofs.Ytphenpncdhgdhaa.Ver
open Go.RowKit Go.Proofs.YtphenpncdhgdhaaW.PrintWords Go.Proofs.YtphenpncdhgdhaaW.PrintLast Go.Proofs.YtphenpncdhgdhaaW.PrintMore Go.Proofs.Ytphenpncdhgdhaa.Sl Go.Proofs.Ytphenpncdhgdhaa.Str
set_option linter.unusedVariables false
set_option linter.unusedSimpArgs false
theorem span_len (rows : List Rw) (a b : ByteArray) (ts : Int) : (span rows a b ts).length ≤ rows.length := by
  unfold span
  exact Nat.le_trans (List.length_filterMap_le _ _) (List.length_filter_le _ _)
/-- A store, whatever lies where. -/
def someH (g : Nat) (rows : List Rw) : HP := HP.ex fun u : Value => HP.ex fun us : List Value => HP.and (us.length = rows.length) (storeH g u rows us)
/-- put, of a store whatever lies where. -/
theorem putS_fun (g : Nat) (rows : List Rw) (n : Nat) (hk : Kept rows n) (hn : n ≤ 1000000) (key : ByteArray) (v : Vn) :
    FunV Try.prog 59 #[.pointer (some ⟨g, 0, none⟩), .string key, .agg #[.int .i64 v.ts, .string v.val, .bool v.dead]] (fun _ => True) [someH g rows] (.int .i64 (putErr rows key v)) [someH g (put rows key v)] := by
  intro w S hS hR
  have HS := St.start hS
  obtain ⟨u, HS⟩ := St.ex_ HS
  obtain ⟨us, HS⟩ := St.ex_ HS
  obtain ⟨hu, HS⟩ := St.and_ HS
  refine ((put_fun g u rows us hk.rises hk.full hu (by have := hk.len; omega) (fun r hr => by have := (hk.each r hr).1; omega) key v).call (F := []) HS (fun _ _ _ _ => trivial)).mono ?_
  rintro e w1 ⟨r, rfl, HS1⟩
  obtain ⟨u', HS1⟩ := St.ex_ HS1
  obtain ⟨us', HS1⟩ := St.ex_ HS1
  obtain ⟨⟨hr, hu'⟩, HS2⟩ := St.and_ HS1
  subst hr
  exact ⟨rfl, St.ex_in u' (St.ex_in us' (St.and_in hu' HS2))⟩
theorem spanS_fun (g : Nat) (rows : List Rw) (n : Nat) (hk : Kept rows n) (hn : n ≤ 1000000) (a b : ByteArray) (ts : Int) :
    Fun Try.prog 33 #[.pointer (some ⟨g, 0, none⟩), .agg #[.string a, .string b], .int .i64 ts] (fun _ => True) [someH g rows] (fun r => [HP.row kHt 51 r (span rows a b ts), someH g rows]) := by
  intro w S hS hR
  have HS := St.start hS
  obtain ⟨u, HS⟩ := St.ex_ HS
  obtain ⟨us, HS⟩ := St.ex_ HS
  obtain ⟨hu, HS⟩ := St.and_ HS
  refine ((span_fun g u rows us hk.rises hk.full hu (by have := hk.len; omega) a b ts).call (F := []) HS (fun _ _ _ _ => trivial)).mono ?_
  rintro e w1 ⟨r, rfl, HS1⟩
  have HS2 : St w S w1 [someH g rows, HP.row kHt 51 r (span rows a b ts)] := St.ex_in u (St.ex_in us (St.and_in hu (HS1.mv 1)))
  exact ⟨r, rfl, HS2.mv 1⟩
theorem newS_fun : Fun Try.prog 28 #[] (fun _ => True) [] (fun r => [HP.ex fun g : Nat => HP.and (r = .pointer (some ⟨g, 0, none⟩)) (someH g [])]) := by
  intro w S hS hR
  refine (new_fun w S hS hR).mono ?_
  rintro e w1 ⟨r, rfl, HS⟩
  obtain ⟨g, HS⟩ := St.ex_ HS
  obtain ⟨hr, HS⟩ := St.and_ HS
  exact ⟨r, rfl, St.ex_in g (St.and_in hr (St.ex_in (.slice none 0 0) (St.ex_in [] (St.and_in rfl HS))))⟩
end Go.Proofs.Ytphenpncdhgdhaa.Ver
