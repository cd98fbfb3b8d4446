/- rows.Changes and its closure, walked. -/
import Derived.Test.YtkhbmamcbhjafaaChgP
import Derived.Test.YtkhbmamcbhjafaaSlAll
import Derived.Laws.EntriesVeiled
namespace Go.Proofs.Ytkhbmamcbhjafaa.Keys
open Go.RowKit Go.Proofs.YtkhbmamcbhjafaaW.PrintWords Go.Proofs.YtkhbmamcbhjafaaW.PrintLast Go.Proofs.YtkhbmamcbhjafaaW.PrintMore Go.Proofs.Ytkhbmamcbhjafaa.Str Go.Proofs.Ytkhbmamcbhjafaa.PRef Go.Proofs.Ytkhbmamcbhjafaa.Stands Go.Proofs.Ytkhbmamcbhjafaa.Sl
set_option linter.unusedVariables false
set_option linter.unusedSimpArgs false
theorem infoW : (Try.prog.info? 66).map (fun i => (i.zero, i.size, i.bytes)) = some (some (.agg #[.string ⟨#[]⟩, .string ⟨#[]⟩, .bool false]), 3, 40) := by kernel_rfl
set_option maxHeartbeats 2000000 in
set_option maxRecDepth 10000 in
/-- The closure 'put': a write more. -/
theorem put_fun (g : Nat) (u : Value) (l : List Wr) (k v : ByteArray) (d : Bool) (hl : l.length ≤ 1000000) :
    Fun Try.prog 34 #[.string k, .string v, .bool d, .pointer (some ⟨g, 0, none⟩)] (fun _ => True) [HP.obj g 52 [u], HP.row kW 66 u l]
      (fun r => [HP.ex fun u' => HP.and (r = .tuple #[]) (HP.star (HP.obj g 52 [u']) (HP.row kW 66 u' (l ++ [⟨k, v, d⟩])))]) := by
  intro w S hS hR
  have HS := St.start hS
  clear hS hR
  have hu1 := Try.underlying66
  have hu2 := Try.underlying52
  have c0 : w.cell? ⟨g, 0, none⟩ = some u := HS.cell 0
  have HA : St w S w [HP.row kW 66 u l, HP.cells kW ⟨k, v, d⟩ [.string k, .string v, .bool d], HP.obj g 52 [u]] := ((HS.mv 1).cells_ (kW_mkM _ _ _ ⟨k, v, d⟩)).mv 1
  clear HS
  go_enter Try.func34, Try.ntmps34
  go_wp2_with (first
    | ((with_reducible refine gate_dst (N := 13) rfl ?_); at_builtin; refine ev_append kW rfl (.tmp 7) (.tmp 12) 52 66 _ 40 rfl Try.underlying52 infoW rfl (by decide) (by omega) u l ⟨k, v, d⟩ [.string k, .string v, .bool d] rfl rfl HA (by omega) ?_; intro v3 w5 H5; obtain ⟨A7, c7, rfl, hc7, hC7⟩ := St.row_C H5; clear hC7)
    | ((with_reducible refine gate_store (t := 52) (p := 3) rfl ?_); refine ev_store rfl rfl 52 (.tmp 3) (.tmp 13) rfl (H5.mv 1) rfl rfl (seg := [_]) rfl ?ht rfl ?hf ?_; (case ht => kernel_rfl); (case hf => simp); intro w6 H6))
  go_end0
  exact ⟨_, rfl, St.ex_in _ (St.and_in rfl (St.unstar H6))⟩
end Go.Proofs.Ytkhbmamcbhjafaa.Keys
