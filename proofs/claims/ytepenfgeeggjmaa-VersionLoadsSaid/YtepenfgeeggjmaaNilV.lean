/- A store that is none: its calls, and the law of it, walked; of what is handed over. -/
import Derived.Test.YtepenfgeeggjmaaAwkV
import Derived.Test.YtepenfgeeggjmaaRow
namespace Go.Proofs.Ytepenfgeeggjmaa.Ver
open Go.RowKit Go.Proofs.YtepenfgeeggjmaaW.PrintWords Go.Proofs.YtepenfgeeggjmaaW.PrintLast Go.Proofs.YtepenfgeeggjmaaW.PrintMore Go.Proofs.Ytepenfgeeggjmaa.Sl Go.Proofs.Ytepenfgeeggjmaa.Str Go.Proofs.Ytepenfgeeggjmaa.Row
set_option linter.unusedVariables false
set_option linter.unusedSimpArgs false
structure OpV where
  kind : Int
  key : ByteArray
  ts : Int
  val : ByteArray
  dead : Bool
  fr : ByteArray
  upto : ByteArray
  at_ : Int
def opC (x : OpV) : List Value := [.int .i64 x.kind, .string x.key, .int .i64 x.ts, .string x.val, .bool x.dead, .string x.fr, .string x.upto, .int .i64 x.at_]
set_option maxHeartbeats 1000000 in
theorem putNil (key val : ByteArray) (ts : Int) (d : Bool) : FunV Try.prog 10 #[.pointer none, .string key, .agg #[.int .i64 ts, .string val, .bool d]] (fun _ => True) [] (.int .i64 2) [] := by
  intro w S hS hR
  have HS := St.start hS
  clear hS hR
  go_enter Try.func10, Try.ntmps10
  go_wp2_with ((with_reducible refine gate_dst (N := 5) rfl ?_); refine ev_box ?hg (N := 5) ?hd (cs := [.int .i64 ts, .string val, .bool d]) (t := 29) HS ?hr ?_; (case hd => rfl); (case hg => rfl); (case hr => first | (go_simp; done) | (go_simp; rfl)); intro gb w1 HS_ hg_; clear HS; have HS := HS_; clear HS_)
  go_ret
  exact ⟨rfl, HS.out 0⟩
set_option maxHeartbeats 1000000 in
theorem spanNil (a b : ByteArray) (ts : Int) : FunV Try.prog 11 #[.pointer none, .agg #[.string a, .string b], .int .i64 ts] (fun _ => True) [] (.slice none 0 0) [] := by
  intro w S hS hR
  have HS := St.start hS
  clear hS hR
  go_enter Try.func11, Try.ntmps11
  go_wp2_with ((with_reducible refine gate_dst (N := 4) rfl ?_); refine ev_box ?hg (N := 4) ?hd (cs := [.string a, .string b]) (t := 24) HS ?hr ?_; (case hd => rfl); (case hg => rfl); (case hr => first | (go_simp; done) | (go_simp; rfl)); intro gb w1 HS_ hg_; clear HS; have HS := HS_; clear HS_)
  go_ret
  exact ⟨rfl, HS.out 0⟩
theorem newestNil (k : ByteArray) : FunV Try.prog 16 #[.pointer none, .string k] (fun _ => True) [] (.int .i64 0) [] := by
  intro w S hS hR
  have HS := St.start hS
  clear hS hR
  go_enter Try.func16, Try.ntmps16
  go_wp2
  go_ret
  exact ⟨rfl, HS⟩
theorem rowsNil : FunV Try.prog 18 #[.pointer none] (fun _ => True) [] (.slice none 0 0) [] := by
  intro w S hS hR
  have HS := St.start hS
  clear hS hR
  go_enter Try.func18, Try.ntmps18
  go_wp2
  go_ret
  exact ⟨rfl, HS⟩
set_option maxHeartbeats 4000000 in
set_option maxRecDepth 20000 in
theorem versionNil_walk (x : OpV) (hx : True) : FunV Try.prog 6 #[.agg #[.int .i64 x.kind, .string x.key, .int .i64 x.ts, .string x.val, .bool x.dead, .string x.fr, .string x.upto, .int .i64 x.at_]] (fun _ => True) [] (.bool true) [] := by
  intro w S hS hR
  have HS := St.start hS
  clear hS hR
  have hu31 := Try.underlying31
  have hu29 := Try.underlying29
  have hu24 := Try.underlying24
  go_enter Try.func6, Try.ntmps6
  go_wp2_with ((with_reducible refine gate_dst (N := 1) rfl ?_); refine ev_box ?hg (N := 1) ?hd (cs := opC x) (t := 31) HS ?hr ?_; (case hd => rfl); (case hg => rfl); (case hr => first | (go_simp; done) | (go_simp; rfl)); intro ob w1 HS_ hg_; clear HS; have HS := HS_; clear HS_)
  refine (awake_fun.call (F := [HP.obj ob 31 (opC x)]) HS (fun _ _ _ _ => trivial)).mono ?_
  rintro e_ w2 ⟨rfl, HS_⟩
  clear HS
  have HS : St w S w2 [HP.obj ob 31 (opC x)] := HS_
  clear HS_
  have q1 : w2.cell? ⟨ob, 1, none⟩ = some (.string x.key) := HS.cell 1
  have q2 : w2.cell? ⟨ob, 2, none⟩ = some (.int .i64 x.ts) := HS.cell 2
  have q3 : w2.cell? ⟨ob, 3, none⟩ = some (.string x.val) := HS.cell 3
  have q4 : w2.cell? ⟨ob, 4, none⟩ = some (.bool x.dead) := HS.cell 4
  go_wp2_with fail
  refine ((putNil x.key x.val x.ts x.dead).call (F := [HP.obj ob 31 (opC x)]) HS (fun _ _ _ _ => trivial)).mono ?_
  rintro e_ w3 ⟨rfl, HS_⟩
  clear HS q1 q2 q3 q4
  have HS : St w S w3 [HP.obj ob 31 (opC x)] := HS_
  clear HS_
  have q5 : w3.cell? ⟨ob, 5, none⟩ = some (.string x.fr) := HS.cell 5
  have q6 : w3.cell? ⟨ob, 6, none⟩ = some (.string x.upto) := HS.cell 6
  have q7 : w3.cell? ⟨ob, 7, none⟩ = some (.int .i64 x.at_) := HS.cell 7
  go_wp2_with fail
  refine ((spanNil x.fr x.upto x.at_).call (F := [HP.obj ob 31 (opC x)]) HS (fun _ _ _ _ => trivial)).mono ?_
  rintro e_ w4 ⟨rfl, HS_⟩
  clear HS q5 q6 q7
  have HS : St w S w4 [HP.obj ob 31 (opC x)] := HS_
  clear HS_
  have q1 : w4.cell? ⟨ob, 1, none⟩ = some (.string x.key) := HS.cell 1
  go_wp2_with fail
  refine ((newestNil x.key).call (F := [HP.obj ob 31 (opC x)]) HS (fun _ _ _ _ => trivial)).mono ?_
  rintro e_ w5 ⟨rfl, HS_⟩
  clear HS q1
  have HS : St w S w5 [HP.obj ob 31 (opC x)] := HS_
  clear HS_
  go_wp2_with fail
  refine (rowsNil.call (F := [HP.obj ob 31 (opC x)]) HS (fun _ _ _ _ => trivial)).mono ?_
  rintro e_ w6 ⟨rfl, HS_⟩
  clear HS
  have HS : St w S w6 [HP.obj ob 31 (opC x)] := HS_
  clear HS_
  go_wp2
  go_ret
  exact ⟨rfl, HS.out 0⟩
def kOp : Kd OpV := Kd.iso (Kd.pair (Kd.int .i64) (Kd.pair Kd.string (Kd.pair (Kd.pair (Kd.int .i64) (Kd.pair Kd.string Kd.bool)) (Kd.pair (Kd.pair Kd.string Kd.string) (Kd.int .i64))))) (fun x : OpV => (x.kind, x.key, (x.ts, x.val, x.dead), (x.fr, x.upto), x.at_))
theorem kOp_open {w : World} {x : OpV} {cs : List Value} (h : kOp.K w x cs) : cs = [.int .i64 x.kind, .string x.key, .int .i64 x.ts, .string x.val, .bool x.dead, .string x.fr, .string x.upto, .int .i64 x.at_] := by
  obtain ⟨_, _, rfl, rfl, ⟨_, _, rfl, rfl, ⟨_, _, rfl, ⟨_, _, rfl, rfl, ⟨_, _, rfl, rfl, rfl⟩⟩, ⟨_, _, rfl, ⟨_, _, rfl, rfl, rfl⟩, rfl⟩⟩⟩⟩ := h
  exact rfl
theorem opens_any {P : Program} {t : TypeId} {α : Type} {d : Kd α} {B : α → Prop} (h : Opens P t d B) : Opens P t d B := h
def BOpV (x : OpV) : Prop := (Lit.int .i64 x.kind).wf = true ∧ x.key.size ≤ 140737488351232 ∧ ((Lit.int .i64 x.ts).wf = true ∧ x.val.size ≤ 140737488351232 ∧ True) ∧ (x.fr.size ≤ 140737488351232 ∧ x.upto.size ≤ 140737488351232) ∧ (Lit.int .i64 x.at_).wf = true
theorem openVn_ : Opens Try.prog 29 (Kd.pair (Kd.int .i64) (Kd.pair Kd.string Kd.bool)) (fun x : Int × ByteArray × Bool => (Lit.int .i64 x.1).wf = true ∧ x.2.1.size ≤ 140737488351232 ∧ True) :=
  opens_struct Try.underlying29 (by kernel_rfl) (fields_cons rfl (by kernel_rfl) (opens_int Try.underlying3) (fields_cons rfl (by kernel_rfl) (opens_string Try.underlying9) (fields_one rfl (by kernel_rfl) (opens_bool Try.underlying4))))
theorem openSp_ : Opens Try.prog 24 (Kd.pair Kd.string Kd.string) (fun x : ByteArray × ByteArray => x.1.size ≤ 140737488351232 ∧ x.2.size ≤ 140737488351232) :=
  opens_struct Try.underlying24 (by kernel_rfl) (fields_cons rfl (by kernel_rfl) (opens_string Try.underlying9) (fields_one rfl (by kernel_rfl) (opens_string Try.underlying9)))
theorem openOp : Opens Try.prog 31 kOp BOpV :=
  opens_iso (fun x : Int × ByteArray × (Int × ByteArray × Bool) × (ByteArray × ByteArray) × Int => (⟨x.1, x.2.1, x.2.2.1.1, x.2.2.1.2.1, x.2.2.1.2.2, x.2.2.2.1.1, x.2.2.2.1.2, x.2.2.2.2⟩ : OpV)) (fun _ => rfl)
    (opens_struct Try.underlying31 (by kernel_rfl) (fields_cons rfl (by kernel_rfl) (opens_int Try.underlying3) (fields_cons rfl (by kernel_rfl) (opens_string Try.underlying9) (fields_cons rfl (by kernel_rfl) openVn_ (fields_cons rfl (by kernel_rfl) openSp_ (fields_one rfl (by kernel_rfl) (opens_int Try.underlying3)))))))
theorem versionNil_law (x : OpV) (hx : BOpV x) : FunV Try.prog 6 #[.agg #[.int .i64 x.kind, .string x.key, .int .i64 x.ts, .string x.val, .bool x.dead, .string x.fr, .string x.upto, .int .i64 x.at_]] (fun _ => True) [] (.bool true) [] := versionNil_walk x trivial
end Go.Proofs.Ytepenfgeeggjmaa.Ver
