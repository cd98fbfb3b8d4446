/- Layer 1: ValueBack, ValueOrder, walked. -/
import Derived.Test.YtnejbilnhebphaaDoorValL
import Derived.Test.YtnejbilnhebphaaDoorValM
namespace Go.Proofs.YtnejbilnhebphaaDoor.Val
open Go.RowKit Go.Proofs.YtnejbilnhebphaaDoorW.PrintWords Go.Proofs.YtnejbilnhebphaaDoorW.PrintLast Go.Proofs.YtnejbilnhebphaaDoorW.PrintMore Go.Proofs.YtnejbilnhebphaaDoor.Str Go.Proofs.YtnejbilnhebphaaDoor.PRef Go.Proofs.YtnejbilnhebphaaDoor.Sl
set_option linter.unusedVariables false
set_option linter.unusedSimpArgs false
set_option maxHeartbeats 16000000 in
set_option maxRecDepth 40000 in
theorem back_ok_ok (ka na : Int) (sa sb : ByteArray) (hs : sb.size ≤ 1048576) (pa : ByteArray) (hpa : FunV Tryd.prog 14 #[.agg #[.int .i64 ka, .int .i64 na, .string sa]] Vars [] (.tuple #[.string pa, .int .i64 0]) []) (hra : FunV Tryd.prog 16 #[.string pa] Vars [] (.tuple #[.agg #[.int .i64 ka, .int .i64 na, .string sa], .int .i64 0]) []) (kc nc : Int) (sc : ByteArray) (hrb : FunV Tryd.prog 16 #[.string sb] Vars [] (.tuple #[.agg #[.int .i64 kc, .int .i64 nc, .string sc], .int .i64 0]) []) (hpc : FunV Tryd.prog 14 #[.agg #[.int .i64 kc, .int .i64 nc, .string sc]] Vars [] (.tuple #[.string sb, .int .i64 0]) []) (hck : value_Check.f kc nc sc = some 0) : FunV Tryd.prog 7 #[.agg #[.int .i64 ka, .int .i64 na, .string sa], .string sb] Vars [] (.bool true) [] := by
  intro w S hS hR
  have HS := St.start hS
  have HR := Aside0.mk hR
  clear hS hR
  have huV := Tryd.underlying23
  have HPA := Aside0.mk hpa
  have HRA := Aside0.mk hra
  clear hpa hra
  have HRB := Aside0.mk hrb
  have HPC := Aside0.mk hpc
  have HC := Aside0.mk hck
  clear hrb hpc hck
  go_enter Tryd.func7, Tryd.ntmps7
  go_wp2_with (first
    | ((with_reducible refine gate_dst (N := 2) rfl ?_); refine ev_box ?hg (N := 2) ?hd (cs := [.int .i64 ka, .int .i64 na, .string sa]) (t := 23) HS ?hr ?_; (case hd => rfl); (case hg => rfl); (case hr => first | (go_simp; done) | (go_simp; rfl)); intro g2 w1 HS_ hg_; clear HS; have HS := HS_; clear HS_; have p0 := HS.cell 0; have p1 := HS.cell 1; have p2 := HS.cell 2))
  refine (HPA.out.call (F := [HP.obj g2 23 [.int .i64 ka, .int .i64 na, .string sa]]) HS (fun w' _ e _ => HR.out w' e)).mono ?_
  rintro e_ w2 ⟨rfl, HS_⟩
  clear HS p0 p1 p2
  have HS : St w S w2 [HP.obj g2 23 [.int .i64 ka, .int .i64 na, .string sa]] := HS_
  clear HS_
  have p0 := HS.cell 0
  have p1 := HS.cell 1
  have p2 := HS.cell 2
  go_wp2_with fail
  refine (HRA.out.call (F := [HP.obj g2 23 [.int .i64 ka, .int .i64 na, .string sa]]) HS (fun w' _ e _ => HR.out w' e)).mono ?_
  rintro e_ w3 ⟨rfl, HS_⟩
  clear HS p0 p1 p2
  have HS : St w S w3 [HP.obj g2 23 [.int .i64 ka, .int .i64 na, .string sa]] := HS_
  clear HS_
  have p0 := HS.cell 0
  have p1 := HS.cell 1
  have p2 := HS.cell 2
  go_wp2_with (first
    | ((with_reducible refine gate_dst (N := 7) rfl ?_); refine ev_box ?hg (N := 7) ?hd (cs := [.int .i64 0, .int .i64 0, .string ⟨#[]⟩]) (t := 23) HS ?hr ?_; (case hd => rfl); (case hg => rfl); (case hr => first | (go_simp; done) | (go_simp; rfl)); intro g7 w4 HS_ hg_; clear HS p0 p1 p2; have HS := HS_; clear HS_; have r0 := HS.cell 0; have r1 := HS.cell 1; have r2 := HS.cell 2; have p0 := (HS.mv 1).cell 0; have p1 := (HS.mv 1).cell 1; have p2 := (HS.mv 1).cell 2)
    | ((with_reducible refine gate_ (.store 23 (.tmp 7) (.tmp 23)) rfl ?_); refine ev_store rfl rfl 23 (.tmp 7) (.tmp 23) rfl HS (g := g7) (j := 0) rfl rfl (seg := [.int .i64 ka, .int .i64 na, .string sa]) rfl ?ht rfl ?hf ?_; (case ht => kernel_rfl); (case hf => first | (simp; done) | (simp [splice]; done)); intro w5 HS_; clear HS r0 r1 r2 p0 p1 p2; have HS : St w S w5 [HP.obj g7 23 [.int .i64 ka, .int .i64 na, .string sa], HP.obj g2 23 [.int .i64 ka, .int .i64 na, .string sa]] := HS_; clear HS_; have r0 := HS.cell 0; have r1 := HS.cell 1; have r2 := HS.cell 2; have p0 := (HS.mv 1).cell 0; have p1 := (HS.mv 1).cell 1; have p2 := (HS.mv 1).cell 2))
  refine (HRB.out.call (F := [HP.obj g7 23 [.int .i64 ka, .int .i64 na, .string sa], HP.obj g2 23 [.int .i64 ka, .int .i64 na, .string sa]]) HS (fun w' _ e _ => HR.out w' e)).mono ?_
  rintro e_ w6 ⟨rfl, HS_⟩
  clear HS r0 r1 r2 p0 p1 p2
  have HS : St w S w6 [HP.obj g7 23 [.int .i64 ka, .int .i64 na, .string sa], HP.obj g2 23 [.int .i64 ka, .int .i64 na, .string sa]] := HS_
  clear HS_
  have r0 := HS.cell 0
  have r1 := HS.cell 1
  have r2 := HS.cell 2
  have p0 := (HS.mv 1).cell 0
  have p1 := (HS.mv 1).cell 1
  have p2 := (HS.mv 1).cell 2
  go_wp2_with (first
    | ((with_reducible refine gate_dst (N := 9) rfl ?_); refine ev_box ?hg (N := 9) ?hd (cs := [.int .i64 0, .int .i64 0, .string ⟨#[]⟩]) (t := 23) HS ?hr ?_; (case hd => rfl); (case hg => rfl); (case hr => first | (go_simp; done) | (go_simp; rfl)); intro g9 w7 HS_ hg_; clear HS r0 r1 r2 p0 p1 p2; have HS := HS_; clear HS_; have q0 := HS.cell 0; have q1 := HS.cell 1; have q2 := HS.cell 2; have r0 := (HS.mv 1).cell 0; have r1 := (HS.mv 1).cell 1; have r2 := (HS.mv 1).cell 2; have p0 := (HS.mv 2).cell 0; have p1 := (HS.mv 2).cell 1; have p2 := (HS.mv 2).cell 2)
    | ((with_reducible refine gate_ (.store 23 (.tmp 9) (.tmp 35)) rfl ?_); refine ev_store rfl rfl 23 (.tmp 9) (.tmp 35) rfl HS (g := g9) (j := 0) rfl rfl (seg := [.int .i64 kc, .int .i64 nc, .string sc]) rfl ?ht rfl ?hf ?_; (case ht => kernel_rfl); (case hf => first | (simp; done) | (simp [splice]; done)); intro w8 HS_; clear HS q0 q1 q2 r0 r1 r2 p0 p1 p2; have HS : St w S w8 [HP.obj g9 23 [.int .i64 kc, .int .i64 nc, .string sc], HP.obj g7 23 [.int .i64 ka, .int .i64 na, .string sa], HP.obj g2 23 [.int .i64 ka, .int .i64 na, .string sa]] := HS_; clear HS_; have q0 := HS.cell 0; have q1 := HS.cell 1; have q2 := HS.cell 2; have r0 := (HS.mv 1).cell 0; have r1 := (HS.mv 1).cell 1; have r2 := (HS.mv 1).cell 2; have p0 := (HS.mv 2).cell 0; have p1 := (HS.mv 2).cell 1; have p2 := (HS.mv 2).cell 2))
  refine (HPC.out.call (F := [HP.obj g9 23 [.int .i64 kc, .int .i64 nc, .string sc], HP.obj g7 23 [.int .i64 ka, .int .i64 na, .string sa], HP.obj g2 23 [.int .i64 ka, .int .i64 na, .string sa]]) HS (fun w' _ e _ => HR.out w' e)).mono ?_
  rintro e_ w9 ⟨rfl, HS_⟩
  clear HS q0 q1 q2 r0 r1 r2 p0 p1 p2
  have HS : St w S w9 [HP.obj g9 23 [.int .i64 kc, .int .i64 nc, .string sc], HP.obj g7 23 [.int .i64 ka, .int .i64 na, .string sa], HP.obj g2 23 [.int .i64 ka, .int .i64 na, .string sa]] := HS_
  clear HS_
  have q0 := HS.cell 0
  have q1 := HS.cell 1
  have q2 := HS.cell 2
  have r0 := (HS.mv 1).cell 0
  have r1 := (HS.mv 1).cell 1
  have r2 := (HS.mv 1).cell 2
  have p0 := (HS.mv 2).cell 0
  have p1 := (HS.mv 2).cell 1
  have p2 := (HS.mv 2).cell 2
  go_wp2_with fail
  refine (awake_fun.call (F := [HP.obj g9 23 [.int .i64 kc, .int .i64 nc, .string sc], HP.obj g7 23 [.int .i64 ka, .int .i64 na, .string sa], HP.obj g2 23 [.int .i64 ka, .int .i64 na, .string sa]]) HS (fun w' _ e _ => HR.out w' e)).mono ?_
  rintro e_ wa ⟨rfl, HS_⟩
  clear HS q0 q1 q2 r0 r1 r2 p0 p1 p2
  have HS : St w S wa [HP.obj g9 23 [.int .i64 kc, .int .i64 nc, .string sc], HP.obj g7 23 [.int .i64 ka, .int .i64 na, .string sa], HP.obj g2 23 [.int .i64 ka, .int .i64 na, .string sa]] := HS_
  clear HS_
  have q0 := HS.cell 0
  have q1 := HS.cell 1
  have q2 := HS.cell 2
  have r0 := (HS.mv 1).cell 0
  have r1 := (HS.mv 1).cell 1
  have r2 := (HS.mv 1).cell 2
  have p0 := (HS.mv 2).cell 0
  have p1 := (HS.mv 2).cell 1
  have p2 := (HS.mv 2).cell 2
  go_wp2_with fail
  refine (value_Check.calls kc nc sc 0 _ HC.out).mono ?_
  rintro e_ wb ⟨rfl, hb⟩
  have HS := HS.later hb
  clear q0 q1 q2 r0 r1 r2 p0 p1 p2 hb
  go_wp2_with fail
  go_ret
  exact ⟨by first | rfl | simp, (((HS.out 0).out 0).out 0)⟩
set_option maxHeartbeats 16000000 in
set_option maxRecDepth 40000 in
theorem back_ok_no (ka na : Int) (sa sb : ByteArray) (hs : sb.size ≤ 1048576) (pa : ByteArray) (hpa : FunV Tryd.prog 14 #[.agg #[.int .i64 ka, .int .i64 na, .string sa]] Vars [] (.tuple #[.string pa, .int .i64 0]) []) (hra : FunV Tryd.prog 16 #[.string pa] Vars [] (.tuple #[.agg #[.int .i64 ka, .int .i64 na, .string sa], .int .i64 0]) []) (hrb : FunV Tryd.prog 16 #[.string sb] Vars [] (.tuple #[.agg #[.int .i64 0, .int .i64 0, .string ⟨#[]⟩], .int .i64 10]) []) : FunV Tryd.prog 7 #[.agg #[.int .i64 ka, .int .i64 na, .string sa], .string sb] Vars [] (.bool true) [] := by
  intro w S hS hR
  have HS := St.start hS
  have HR := Aside0.mk hR
  clear hS hR
  have huV := Tryd.underlying23
  have HPA := Aside0.mk hpa
  have HRA := Aside0.mk hra
  clear hpa hra
  have HRB := Aside0.mk hrb
  clear hrb
  go_enter Tryd.func7, Tryd.ntmps7
  go_wp2_with (first
    | ((with_reducible refine gate_dst (N := 2) rfl ?_); refine ev_box ?hg (N := 2) ?hd (cs := [.int .i64 ka, .int .i64 na, .string sa]) (t := 23) HS ?hr ?_; (case hd => rfl); (case hg => rfl); (case hr => first | (go_simp; done) | (go_simp; rfl)); intro g2 w1 HS_ hg_; clear HS; have HS := HS_; clear HS_; have p0 := HS.cell 0; have p1 := HS.cell 1; have p2 := HS.cell 2))
  refine (HPA.out.call (F := [HP.obj g2 23 [.int .i64 ka, .int .i64 na, .string sa]]) HS (fun w' _ e _ => HR.out w' e)).mono ?_
  rintro e_ w2 ⟨rfl, HS_⟩
  clear HS p0 p1 p2
  have HS : St w S w2 [HP.obj g2 23 [.int .i64 ka, .int .i64 na, .string sa]] := HS_
  clear HS_
  have p0 := HS.cell 0
  have p1 := HS.cell 1
  have p2 := HS.cell 2
  go_wp2_with fail
  refine (HRA.out.call (F := [HP.obj g2 23 [.int .i64 ka, .int .i64 na, .string sa]]) HS (fun w' _ e _ => HR.out w' e)).mono ?_
  rintro e_ w3 ⟨rfl, HS_⟩
  clear HS p0 p1 p2
  have HS : St w S w3 [HP.obj g2 23 [.int .i64 ka, .int .i64 na, .string sa]] := HS_
  clear HS_
  have p0 := HS.cell 0
  have p1 := HS.cell 1
  have p2 := HS.cell 2
  go_wp2_with (first
    | ((with_reducible refine gate_dst (N := 7) rfl ?_); refine ev_box ?hg (N := 7) ?hd (cs := [.int .i64 0, .int .i64 0, .string ⟨#[]⟩]) (t := 23) HS ?hr ?_; (case hd => rfl); (case hg => rfl); (case hr => first | (go_simp; done) | (go_simp; rfl)); intro g7 w4 HS_ hg_; clear HS p0 p1 p2; have HS := HS_; clear HS_; have r0 := HS.cell 0; have r1 := HS.cell 1; have r2 := HS.cell 2; have p0 := (HS.mv 1).cell 0; have p1 := (HS.mv 1).cell 1; have p2 := (HS.mv 1).cell 2)
    | ((with_reducible refine gate_ (.store 23 (.tmp 7) (.tmp 23)) rfl ?_); refine ev_store rfl rfl 23 (.tmp 7) (.tmp 23) rfl HS (g := g7) (j := 0) rfl rfl (seg := [.int .i64 ka, .int .i64 na, .string sa]) rfl ?ht rfl ?hf ?_; (case ht => kernel_rfl); (case hf => first | (simp; done) | (simp [splice]; done)); intro w5 HS_; clear HS r0 r1 r2 p0 p1 p2; have HS : St w S w5 [HP.obj g7 23 [.int .i64 ka, .int .i64 na, .string sa], HP.obj g2 23 [.int .i64 ka, .int .i64 na, .string sa]] := HS_; clear HS_; have r0 := HS.cell 0; have r1 := HS.cell 1; have r2 := HS.cell 2; have p0 := (HS.mv 1).cell 0; have p1 := (HS.mv 1).cell 1; have p2 := (HS.mv 1).cell 2))
  refine (HRB.out.call (F := [HP.obj g7 23 [.int .i64 ka, .int .i64 na, .string sa], HP.obj g2 23 [.int .i64 ka, .int .i64 na, .string sa]]) HS (fun w' _ e _ => HR.out w' e)).mono ?_
  rintro e_ w6 ⟨rfl, HS_⟩
  clear HS r0 r1 r2 p0 p1 p2
  have HS : St w S w6 [HP.obj g7 23 [.int .i64 ka, .int .i64 na, .string sa], HP.obj g2 23 [.int .i64 ka, .int .i64 na, .string sa]] := HS_
  clear HS_
  have r0 := HS.cell 0
  have r1 := HS.cell 1
  have r2 := HS.cell 2
  have p0 := (HS.mv 1).cell 0
  have p1 := (HS.mv 1).cell 1
  have p2 := (HS.mv 1).cell 2
  go_wp2_with (first
    | ((with_reducible refine gate_dst (N := 9) rfl ?_); refine ev_box ?hg (N := 9) ?hd (cs := [.int .i64 0, .int .i64 0, .string ⟨#[]⟩]) (t := 23) HS ?hr ?_; (case hd => rfl); (case hg => rfl); (case hr => first | (go_simp; done) | (go_simp; rfl)); intro g9 w7 HS_ hg_; clear HS r0 r1 r2 p0 p1 p2; have HS := HS_; clear HS_; have q0 := HS.cell 0; have q1 := HS.cell 1; have q2 := HS.cell 2; have r0 := (HS.mv 1).cell 0; have r1 := (HS.mv 1).cell 1; have r2 := (HS.mv 1).cell 2; have p0 := (HS.mv 2).cell 0; have p1 := (HS.mv 2).cell 1; have p2 := (HS.mv 2).cell 2)
    | ((with_reducible refine gate_ (.store 23 (.tmp 9) (.tmp 35)) rfl ?_); refine ev_store rfl rfl 23 (.tmp 9) (.tmp 35) rfl HS (g := g9) (j := 0) rfl rfl (seg := [.int .i64 0, .int .i64 0, .string ⟨#[]⟩]) rfl ?ht rfl ?hf ?_; (case ht => kernel_rfl); (case hf => first | (simp; done) | (simp [splice]; done)); intro w8 HS_; clear HS q0 q1 q2 r0 r1 r2 p0 p1 p2; have HS : St w S w8 [HP.obj g9 23 [.int .i64 0, .int .i64 0, .string ⟨#[]⟩], HP.obj g7 23 [.int .i64 ka, .int .i64 na, .string sa], HP.obj g2 23 [.int .i64 ka, .int .i64 na, .string sa]] := HS_; clear HS_; have q0 := HS.cell 0; have q1 := HS.cell 1; have q2 := HS.cell 2; have r0 := (HS.mv 1).cell 0; have r1 := (HS.mv 1).cell 1; have r2 := (HS.mv 1).cell 2; have p0 := (HS.mv 2).cell 0; have p1 := (HS.mv 2).cell 1; have p2 := (HS.mv 2).cell 2))
  refine (awake_fun.call (F := [HP.obj g9 23 [.int .i64 0, .int .i64 0, .string ⟨#[]⟩], HP.obj g7 23 [.int .i64 ka, .int .i64 na, .string sa], HP.obj g2 23 [.int .i64 ka, .int .i64 na, .string sa]]) HS (fun w' _ e _ => HR.out w' e)).mono ?_
  rintro e_ wa ⟨rfl, HS_⟩
  clear HS q0 q1 q2 r0 r1 r2 p0 p1 p2
  have HS : St w S wa [HP.obj g9 23 [.int .i64 0, .int .i64 0, .string ⟨#[]⟩], HP.obj g7 23 [.int .i64 ka, .int .i64 na, .string sa], HP.obj g2 23 [.int .i64 ka, .int .i64 na, .string sa]] := HS_
  clear HS_
  have q0 := HS.cell 0
  have q1 := HS.cell 1
  have q2 := HS.cell 2
  have r0 := (HS.mv 1).cell 0
  have r1 := (HS.mv 1).cell 1
  have r2 := (HS.mv 1).cell 2
  have p0 := (HS.mv 2).cell 0
  have p1 := (HS.mv 2).cell 1
  have p2 := (HS.mv 2).cell 2
  go_wp2_with fail
  go_ret
  exact ⟨by first | rfl | simp, (((HS.out 0).out 0).out 0)⟩
set_option maxHeartbeats 16000000 in
set_option maxRecDepth 40000 in
theorem back_no_ok (ka na : Int) (sa sb : ByteArray) (hs : sb.size ≤ 1048576) (hpa : FunV Tryd.prog 14 #[.agg #[.int .i64 ka, .int .i64 na, .string sa]] Vars [] (.tuple #[.string ⟨#[]⟩, .int .i64 10]) []) (kc nc : Int) (sc : ByteArray) (hrb : FunV Tryd.prog 16 #[.string sb] Vars [] (.tuple #[.agg #[.int .i64 kc, .int .i64 nc, .string sc], .int .i64 0]) []) (hpc : FunV Tryd.prog 14 #[.agg #[.int .i64 kc, .int .i64 nc, .string sc]] Vars [] (.tuple #[.string sb, .int .i64 0]) []) (hck : value_Check.f kc nc sc = some 0) : FunV Tryd.prog 7 #[.agg #[.int .i64 ka, .int .i64 na, .string sa], .string sb] Vars [] (.bool true) [] := by
  intro w S hS hR
  have HS := St.start hS
  have HR := Aside0.mk hR
  clear hS hR
  have huV := Tryd.underlying23
  have HPA := Aside0.mk hpa
  clear hpa
  have HRB := Aside0.mk hrb
  have HPC := Aside0.mk hpc
  have HC := Aside0.mk hck
  clear hrb hpc hck
  go_enter Tryd.func7, Tryd.ntmps7
  go_wp2_with (first
    | ((with_reducible refine gate_dst (N := 2) rfl ?_); refine ev_box ?hg (N := 2) ?hd (cs := [.int .i64 ka, .int .i64 na, .string sa]) (t := 23) HS ?hr ?_; (case hd => rfl); (case hg => rfl); (case hr => first | (go_simp; done) | (go_simp; rfl)); intro g2 w1 HS_ hg_; clear HS; have HS := HS_; clear HS_; have p0 := HS.cell 0; have p1 := HS.cell 1; have p2 := HS.cell 2))
  refine (HPA.out.call (F := [HP.obj g2 23 [.int .i64 ka, .int .i64 na, .string sa]]) HS (fun w' _ e _ => HR.out w' e)).mono ?_
  rintro e_ w2 ⟨rfl, HS_⟩
  clear HS p0 p1 p2
  have HS : St w S w2 [HP.obj g2 23 [.int .i64 ka, .int .i64 na, .string sa]] := HS_
  clear HS_
  have p0 := HS.cell 0
  have p1 := HS.cell 1
  have p2 := HS.cell 2
  go_wp2_with fail
  refine (HRB.out.call (F := [HP.obj g2 23 [.int .i64 ka, .int .i64 na, .string sa]]) HS (fun w' _ e _ => HR.out w' e)).mono ?_
  rintro e_ w6 ⟨rfl, HS_⟩
  clear HS p0 p1 p2
  have HS : St w S w6 [HP.obj g2 23 [.int .i64 ka, .int .i64 na, .string sa]] := HS_
  clear HS_
  have p0 := HS.cell 0
  have p1 := HS.cell 1
  have p2 := HS.cell 2
  go_wp2_with (first
    | ((with_reducible refine gate_dst (N := 9) rfl ?_); refine ev_box ?hg (N := 9) ?hd (cs := [.int .i64 0, .int .i64 0, .string ⟨#[]⟩]) (t := 23) HS ?hr ?_; (case hd => rfl); (case hg => rfl); (case hr => first | (go_simp; done) | (go_simp; rfl)); intro g9 w7 HS_ hg_; clear HS p0 p1 p2; have HS := HS_; clear HS_; have q0 := HS.cell 0; have q1 := HS.cell 1; have q2 := HS.cell 2; have p0 := (HS.mv 1).cell 0; have p1 := (HS.mv 1).cell 1; have p2 := (HS.mv 1).cell 2)
    | ((with_reducible refine gate_ (.store 23 (.tmp 9) (.tmp 35)) rfl ?_); refine ev_store rfl rfl 23 (.tmp 9) (.tmp 35) rfl HS (g := g9) (j := 0) rfl rfl (seg := [.int .i64 kc, .int .i64 nc, .string sc]) rfl ?ht rfl ?hf ?_; (case ht => kernel_rfl); (case hf => first | (simp; done) | (simp [splice]; done)); intro w8 HS_; clear HS q0 q1 q2 p0 p1 p2; have HS : St w S w8 [HP.obj g9 23 [.int .i64 kc, .int .i64 nc, .string sc], HP.obj g2 23 [.int .i64 ka, .int .i64 na, .string sa]] := HS_; clear HS_; have q0 := HS.cell 0; have q1 := HS.cell 1; have q2 := HS.cell 2; have p0 := (HS.mv 1).cell 0; have p1 := (HS.mv 1).cell 1; have p2 := (HS.mv 1).cell 2))
  refine (HPC.out.call (F := [HP.obj g9 23 [.int .i64 kc, .int .i64 nc, .string sc], HP.obj g2 23 [.int .i64 ka, .int .i64 na, .string sa]]) HS (fun w' _ e _ => HR.out w' e)).mono ?_
  rintro e_ w9 ⟨rfl, HS_⟩
  clear HS q0 q1 q2 p0 p1 p2
  have HS : St w S w9 [HP.obj g9 23 [.int .i64 kc, .int .i64 nc, .string sc], HP.obj g2 23 [.int .i64 ka, .int .i64 na, .string sa]] := HS_
  clear HS_
  have q0 := HS.cell 0
  have q1 := HS.cell 1
  have q2 := HS.cell 2
  have p0 := (HS.mv 1).cell 0
  have p1 := (HS.mv 1).cell 1
  have p2 := (HS.mv 1).cell 2
  go_wp2_with fail
  refine (awake_fun.call (F := [HP.obj g9 23 [.int .i64 kc, .int .i64 nc, .string sc], HP.obj g2 23 [.int .i64 ka, .int .i64 na, .string sa]]) HS (fun w' _ e _ => HR.out w' e)).mono ?_
  rintro e_ wa ⟨rfl, HS_⟩
  clear HS q0 q1 q2 p0 p1 p2
  have HS : St w S wa [HP.obj g9 23 [.int .i64 kc, .int .i64 nc, .string sc], HP.obj g2 23 [.int .i64 ka, .int .i64 na, .string sa]] := HS_
  clear HS_
  have q0 := HS.cell 0
  have q1 := HS.cell 1
  have q2 := HS.cell 2
  have p0 := (HS.mv 1).cell 0
  have p1 := (HS.mv 1).cell 1
  have p2 := (HS.mv 1).cell 2
  go_wp2_with fail
  refine (value_Check.calls kc nc sc 0 _ HC.out).mono ?_
  rintro e_ wb ⟨rfl, hb⟩
  have HS := HS.later hb
  clear q0 q1 q2 p0 p1 p2 hb
  go_wp2_with fail
  go_ret
  exact ⟨by first | rfl | simp, ((HS.out 0).out 0)⟩
set_option maxHeartbeats 16000000 in
set_option maxRecDepth 40000 in
theorem back_no_no (ka na : Int) (sa sb : ByteArray) (hs : sb.size ≤ 1048576) (hpa : FunV Tryd.prog 14 #[.agg #[.int .i64 ka, .int .i64 na, .string sa]] Vars [] (.tuple #[.string ⟨#[]⟩, .int .i64 10]) []) (hrb : FunV Tryd.prog 16 #[.string sb] Vars [] (.tuple #[.agg #[.int .i64 0, .int .i64 0, .string ⟨#[]⟩], .int .i64 10]) []) : FunV Tryd.prog 7 #[.agg #[.int .i64 ka, .int .i64 na, .string sa], .string sb] Vars [] (.bool true) [] := by
  intro w S hS hR
  have HS := St.start hS
  have HR := Aside0.mk hR
  clear hS hR
  have huV := Tryd.underlying23
  have HPA := Aside0.mk hpa
  clear hpa
  have HRB := Aside0.mk hrb
  clear hrb
  go_enter Tryd.func7, Tryd.ntmps7
  go_wp2_with (first
    | ((with_reducible refine gate_dst (N := 2) rfl ?_); refine ev_box ?hg (N := 2) ?hd (cs := [.int .i64 ka, .int .i64 na, .string sa]) (t := 23) HS ?hr ?_; (case hd => rfl); (case hg => rfl); (case hr => first | (go_simp; done) | (go_simp; rfl)); intro g2 w1 HS_ hg_; clear HS; have HS := HS_; clear HS_; have p0 := HS.cell 0; have p1 := HS.cell 1; have p2 := HS.cell 2))
  refine (HPA.out.call (F := [HP.obj g2 23 [.int .i64 ka, .int .i64 na, .string sa]]) HS (fun w' _ e _ => HR.out w' e)).mono ?_
  rintro e_ w2 ⟨rfl, HS_⟩
  clear HS p0 p1 p2
  have HS : St w S w2 [HP.obj g2 23 [.int .i64 ka, .int .i64 na, .string sa]] := HS_
  clear HS_
  have p0 := HS.cell 0
  have p1 := HS.cell 1
  have p2 := HS.cell 2
  go_wp2_with fail
  refine (HRB.out.call (F := [HP.obj g2 23 [.int .i64 ka, .int .i64 na, .string sa]]) HS (fun w' _ e _ => HR.out w' e)).mono ?_
  rintro e_ w6 ⟨rfl, HS_⟩
  clear HS p0 p1 p2
  have HS : St w S w6 [HP.obj g2 23 [.int .i64 ka, .int .i64 na, .string sa]] := HS_
  clear HS_
  have p0 := HS.cell 0
  have p1 := HS.cell 1
  have p2 := HS.cell 2
  go_wp2_with (first
    | ((with_reducible refine gate_dst (N := 9) rfl ?_); refine ev_box ?hg (N := 9) ?hd (cs := [.int .i64 0, .int .i64 0, .string ⟨#[]⟩]) (t := 23) HS ?hr ?_; (case hd => rfl); (case hg => rfl); (case hr => first | (go_simp; done) | (go_simp; rfl)); intro g9 w7 HS_ hg_; clear HS p0 p1 p2; have HS := HS_; clear HS_; have q0 := HS.cell 0; have q1 := HS.cell 1; have q2 := HS.cell 2; have p0 := (HS.mv 1).cell 0; have p1 := (HS.mv 1).cell 1; have p2 := (HS.mv 1).cell 2)
    | ((with_reducible refine gate_ (.store 23 (.tmp 9) (.tmp 35)) rfl ?_); refine ev_store rfl rfl 23 (.tmp 9) (.tmp 35) rfl HS (g := g9) (j := 0) rfl rfl (seg := [.int .i64 0, .int .i64 0, .string ⟨#[]⟩]) rfl ?ht rfl ?hf ?_; (case ht => kernel_rfl); (case hf => first | (simp; done) | (simp [splice]; done)); intro w8 HS_; clear HS q0 q1 q2 p0 p1 p2; have HS : St w S w8 [HP.obj g9 23 [.int .i64 0, .int .i64 0, .string ⟨#[]⟩], HP.obj g2 23 [.int .i64 ka, .int .i64 na, .string sa]] := HS_; clear HS_; have q0 := HS.cell 0; have q1 := HS.cell 1; have q2 := HS.cell 2; have p0 := (HS.mv 1).cell 0; have p1 := (HS.mv 1).cell 1; have p2 := (HS.mv 1).cell 2))
  refine (awake_fun.call (F := [HP.obj g9 23 [.int .i64 0, .int .i64 0, .string ⟨#[]⟩], HP.obj g2 23 [.int .i64 ka, .int .i64 na, .string sa]]) HS (fun w' _ e _ => HR.out w' e)).mono ?_
  rintro e_ wa ⟨rfl, HS_⟩
  clear HS q0 q1 q2 p0 p1 p2
  have HS : St w S wa [HP.obj g9 23 [.int .i64 0, .int .i64 0, .string ⟨#[]⟩], HP.obj g2 23 [.int .i64 ka, .int .i64 na, .string sa]] := HS_
  clear HS_
  have q0 := HS.cell 0
  have q1 := HS.cell 1
  have q2 := HS.cell 2
  have p0 := (HS.mv 1).cell 0
  have p1 := (HS.mv 1).cell 1
  have p2 := (HS.mv 1).cell 2
  go_wp2_with fail
  go_ret
  exact ⟨by first | rfl | simp, ((HS.out 0).out 0)⟩
set_option maxHeartbeats 16000000 in
set_option maxRecDepth 40000 in
theorem order_0 (ka na : Int) (sa : ByteArray) (kb nb : Int) (sb : ByteArray) (kc nc : Int) (sc : ByteArray) (hab : cmpV ka na sa kb nb sb = 1) (hbc : cmpV kb nb sb kc nc sc = (-1)) (z : Int) (hac : cmpV ka na sa kc nc sc = z) (hba : cmpV kb nb sb ka na sa = (-1)) : FunV Tryd.prog 8 #[.agg #[.int .i64 ka, .int .i64 na, .string sa], .agg #[.int .i64 kb, .int .i64 nb, .string sb], .agg #[.int .i64 kc, .int .i64 nc, .string sc]] Vars [] (.bool true) [] := by
  intro w S hS hR
  have HS := St.start hS
  have HR := Aside0.mk hR
  clear hS hR
  have huV := Tryd.underlying23
  have HNE := Aside0.mk (show ¬ (ka = kb ∧ na = nb ∧ sa = sb) from fun h => by have := (cmpV_zero ka na sa kb nb sb).2 h; omega)
  have hv1 := valcmp_fun ka na sa kb nb sb
  have hv2 := valcmp_fun kb nb sb kc nc sc
  have hv3 := valcmp_fun ka na sa kc nc sc
  have hv4 := valcmp_fun kb nb sb ka na sa
  change FunV _ _ _ _ _ (.int .i64 (cmpV ka na sa kb nb sb)) _ at hv1
  change FunV _ _ _ _ _ (.int .i64 (cmpV kb nb sb kc nc sc)) _ at hv2
  change FunV _ _ _ _ _ (.int .i64 (cmpV ka na sa kc nc sc)) _ at hv3
  change FunV _ _ _ _ _ (.int .i64 (cmpV kb nb sb ka na sa)) _ at hv4
  rw [hab] at hv1
  rw [hbc] at hv2
  rw [hac] at hv3
  rw [hba] at hv4
  have HV1 := Aside0.mk hv1
  have HV2 := Aside0.mk hv2
  have HV3 := Aside0.mk hv3
  have HV4 := Aside0.mk hv4
  clear hv1 hv2 hv3 hv4 hab hbc hac hba
  go_enter Tryd.func8, Tryd.ntmps8
  go_wp2_with (first
    | ((with_reducible refine gate_dst (N := 3) rfl ?_); refine ev_box ?hg (N := 3) ?hd (cs := [.int .i64 ka, .int .i64 na, .string sa]) (t := 23) HS ?hr ?_; (case hd => rfl); (case hg => rfl); (case hr => first | (go_simp; done) | (go_simp; rfl)); intro g3 w1 HS_ hg_; clear HS; have HS := HS_; clear HS_)
    | ((with_reducible refine gate_dst (N := 4) rfl ?_); refine ev_box ?hg (N := 4) ?hd (cs := [.int .i64 kb, .int .i64 nb, .string sb]) (t := 23) HS ?hr ?_; (case hd => rfl); (case hg => rfl); (case hr => first | (go_simp; done) | (go_simp; rfl)); intro g4 w2 HS_ hg_; clear HS; have HS := HS_; clear HS_)
    | ((with_reducible refine gate_dst (N := 5) rfl ?_); refine ev_box ?hg (N := 5) ?hd (cs := [.int .i64 kc, .int .i64 nc, .string sc]) (t := 23) HS ?hr ?_; (case hd => rfl); (case hg => rfl); (case hr => first | (go_simp; done) | (go_simp; rfl)); intro g5 w3 HS_ hg_; clear HS; have HS := HS_; clear HS_))
  refine start_ (n := 12) (S := fun w' => w'.cell? ⟨g5, 0, none⟩ = some (.int .i64 kc) ∧ w'.cell? ⟨g5, 1, none⟩ = some (.int .i64 nc) ∧ w'.cell? ⟨g5, 2, none⟩ = some (.string sc) ∧ w'.cell? ⟨g4, 0, none⟩ = some (.int .i64 kb) ∧ w'.cell? ⟨g4, 1, none⟩ = some (.int .i64 nb) ∧ w'.cell? ⟨g4, 2, none⟩ = some (.string sb) ∧ w'.cell? ⟨g3, 0, none⟩ = some (.int .i64 ka) ∧ w'.cell? ⟨g3, 1, none⟩ = some (.int .i64 na) ∧ w'.cell? ⟨g3, 2, none⟩ = some (.string sa)) (ds := []) #[false, false, false, false, false, false, false, false, false, false, false, false] (by kernel_rfl) rfl rfl ⟨HS.drew.cell 0, HS.drew.cell 1, HS.drew.cell 2, (HS.drew.mv 1).cell 0, (HS.drew.mv 1).cell 1, (HS.drew.mv 1).cell 2, (HS.drew.mv 2).cell 0, (HS.drew.mv 2).cell 1, (HS.drew.mv 2).cell 2⟩ (fun hHeld => ?_)
  refine take_ (i := 0) (N := some 10) (v := ?_) (a' := ?_) #[true, false, false, false, false, false, false, false, false, false, false, false] rfl rfl (by kernel_rfl) (fun _ _ _ h => h) (Or.inl ⟨by rfl, ?_⟩) hHeld ?_ ?_
  rotate_left
  · rintro w' ⟨s0, s1, s2, s3, s4, s5, s6, s7, s8⟩
    go_simp
    with_reducible rfl
  rotate_left
  · simp only [Act.put, List.setIfInBounds_toArray, List.set_cons_zero, List.set_cons_succ, i64_w, i32_w]
    rfl
  refine take_ (i := 1) (N := some 11) (v := ?_) (a' := ?_) #[true, true, false, false, false, false, false, false, false, false, false, false] rfl rfl (by kernel_rfl) (fun _ _ _ h => h) (Or.inl ⟨by rfl, ?_⟩) hHeld ?_ ?_
  rotate_left
  · rintro w' ⟨s0, s1, s2, s3, s4, s5, s6, s7, s8⟩
    go_simp
    with_reducible rfl
  rotate_left
  · simp only [Act.put, List.setIfInBounds_toArray, List.set_cons_zero, List.set_cons_succ, i64_w, i32_w]
    rfl
  refine take_ (i := 3) (N := some 13) (v := ?_) (a' := ?_) #[true, true, false, true, false, false, false, false, false, false, false, false] rfl rfl (by kernel_rfl) (fun _ _ _ h => h) (Or.inl ⟨by rfl, ?_⟩) hHeld ?_ ?_
  rotate_left
  · rintro w' ⟨s0, s1, s2, s3, s4, s5, s6, s7, s8⟩
    go_simp
    with_reducible rfl
  rotate_left
  · simp only [Act.put, List.setIfInBounds_toArray, List.set_cons_zero, List.set_cons_succ, i64_w, i32_w]
    rfl
  refine take_ (i := 4) (N := some 14) (v := ?_) (a' := ?_) #[true, true, false, true, true, false, false, false, false, false, false, false] rfl rfl (by kernel_rfl) (fun _ _ _ h => h) (Or.inl ⟨by rfl, ?_⟩) hHeld ?_ ?_
  rotate_left
  · rintro w' ⟨s0, s1, s2, s3, s4, s5, s6, s7, s8⟩
    go_simp
    with_reducible rfl
  rotate_left
  · simp only [Act.put, List.setIfInBounds_toArray, List.set_cons_zero, List.set_cons_succ, i64_w, i32_w]
    rfl
  refine take_ (i := 6) (N := some 16) (v := ?_) (a' := ?_) #[true, true, false, true, true, false, true, false, false, false, false, false] rfl rfl (by kernel_rfl) (fun _ _ _ h => h) (Or.inl ⟨by rfl, ?_⟩) hHeld ?_ ?_
  rotate_left
  · rintro w' ⟨s0, s1, s2, s3, s4, s5, s6, s7, s8⟩
    go_simp
    with_reducible rfl
  rotate_left
  · simp only [Act.put, List.setIfInBounds_toArray, List.set_cons_zero, List.set_cons_succ, i64_w, i32_w]
    rfl
  refine take_ (i := 7) (N := some 17) (v := ?_) (a' := ?_) #[true, true, false, true, true, false, true, true, false, false, false, false] rfl rfl (by kernel_rfl) (fun _ _ _ h => h) (Or.inl ⟨by rfl, ?_⟩) hHeld ?_ ?_
  rotate_left
  · rintro w' ⟨s0, s1, s2, s3, s4, s5, s6, s7, s8⟩
    go_simp
    with_reducible rfl
  rotate_left
  · simp only [Act.put, List.setIfInBounds_toArray, List.set_cons_zero, List.set_cons_succ, i64_w, i32_w]
    rfl
  refine one_ (i := 2) (N := some 12) #[true, true, true, true, true, false, true, true, false, false, false, false] rfl rfl (by kernel_rfl) (by decide) (fun K hK => ?_)
  refine goes_ Tryd.func12 (by kernel_rfl) rfl #[.agg #[.int .i64 ka, .int .i64 na, .string sa], .agg #[.int .i64 kb, .int .i64 nb, .string sb]] (by rfl) rfl rfl (by first | (simp only [List.map_toArray, List.map_cons, List.map_nil]; rfl) | simp only [List.map_toArray, List.map_cons, List.map_nil] | rfl) ?_
  refine ((HV1.out).call (F := [HP.obj g5 23 [.int .i64 kc, .int .i64 nc, .string sc], HP.obj g4 23 [.int .i64 kb, .int .i64 nb, .string sb], HP.obj g3 23 [.int .i64 ka, .int .i64 na, .string sa]]) HS.drew (fun _ _ _ _ => trivial)).mono ?_
  rintro e_ w5 ⟨rfl, HS_⟩
  refine ⟨_, rfl, ?_⟩
  clear HS
  have HS : St w S w5 [HP.obj g5 23 [.int .i64 kc, .int .i64 nc, .string sc], HP.obj g4 23 [.int .i64 kb, .int .i64 nb, .string sb], HP.obj g3 23 [.int .i64 ka, .int .i64 na, .string sa]] := HS_
  clear HS_
  refine hK.out _ _ ⟨HS.cell 0, HS.cell 1, HS.cell 2, (HS.mv 1).cell 0, (HS.mv 1).cell 1, (HS.mv 1).cell 2, (HS.mv 2).cell 0, (HS.mv 2).cell 1, (HS.mv 2).cell 2⟩ (fun hHeld => ?_)
  clear hK K
  refine norm_ (a' := ?_) ?_ ?_
  rotate_left
  · show Act.put _ (some 12) _ = _
    simp only [Act.put, List.setIfInBounds_toArray, List.set_cons_zero, List.set_cons_succ, i64_w, i32_w]
    rfl
  refine one_ (i := 5) (N := some 15) #[true, true, true, true, true, true, true, true, false, false, false, false] rfl rfl (by kernel_rfl) (by decide) (fun K hK => ?_)
  refine goes_ Tryd.func12 (by kernel_rfl) rfl #[.agg #[.int .i64 kb, .int .i64 nb, .string sb], .agg #[.int .i64 kc, .int .i64 nc, .string sc]] (by rfl) rfl rfl (by first | (simp only [List.map_toArray, List.map_cons, List.map_nil]; rfl) | simp only [List.map_toArray, List.map_cons, List.map_nil] | rfl) ?_
  refine ((HV2.out).call (F := [HP.obj g5 23 [.int .i64 kc, .int .i64 nc, .string sc], HP.obj g4 23 [.int .i64 kb, .int .i64 nb, .string sb], HP.obj g3 23 [.int .i64 ka, .int .i64 na, .string sa]]) HS (fun _ _ _ _ => trivial)).mono ?_
  rintro e_ w6 ⟨rfl, HS_⟩
  refine ⟨_, rfl, ?_⟩
  clear HS
  have HS : St w S w6 [HP.obj g5 23 [.int .i64 kc, .int .i64 nc, .string sc], HP.obj g4 23 [.int .i64 kb, .int .i64 nb, .string sb], HP.obj g3 23 [.int .i64 ka, .int .i64 na, .string sa]] := HS_
  clear HS_
  refine hK.out _ _ ⟨HS.cell 0, HS.cell 1, HS.cell 2, (HS.mv 1).cell 0, (HS.mv 1).cell 1, (HS.mv 1).cell 2, (HS.mv 2).cell 0, (HS.mv 2).cell 1, (HS.mv 2).cell 2⟩ (fun hHeld => ?_)
  clear hK K
  refine norm_ (a' := ?_) ?_ ?_
  rotate_left
  · show Act.put _ (some 15) _ = _
    simp only [Act.put, List.setIfInBounds_toArray, List.set_cons_zero, List.set_cons_succ, i64_w, i32_w]
    rfl
  refine one_ (i := 8) (N := some 18) #[true, true, true, true, true, true, true, true, true, false, false, false] rfl rfl (by kernel_rfl) (by decide) (fun K hK => ?_)
  refine goes_ Tryd.func12 (by kernel_rfl) rfl #[.agg #[.int .i64 ka, .int .i64 na, .string sa], .agg #[.int .i64 kc, .int .i64 nc, .string sc]] (by rfl) rfl rfl (by first | (simp only [List.map_toArray, List.map_cons, List.map_nil]; rfl) | simp only [List.map_toArray, List.map_cons, List.map_nil] | rfl) ?_
  refine ((HV3.out).call (F := [HP.obj g5 23 [.int .i64 kc, .int .i64 nc, .string sc], HP.obj g4 23 [.int .i64 kb, .int .i64 nb, .string sb], HP.obj g3 23 [.int .i64 ka, .int .i64 na, .string sa]]) HS (fun _ _ _ _ => trivial)).mono ?_
  rintro e_ w7 ⟨rfl, HS_⟩
  refine ⟨_, rfl, ?_⟩
  clear HS
  have HS : St w S w7 [HP.obj g5 23 [.int .i64 kc, .int .i64 nc, .string sc], HP.obj g4 23 [.int .i64 kb, .int .i64 nb, .string sb], HP.obj g3 23 [.int .i64 ka, .int .i64 na, .string sa]] := HS_
  clear HS_
  refine hK.out _ _ ⟨HS.cell 0, HS.cell 1, HS.cell 2, (HS.mv 1).cell 0, (HS.mv 1).cell 1, (HS.mv 1).cell 2, (HS.mv 2).cell 0, (HS.mv 2).cell 1, (HS.mv 2).cell 2⟩ (fun hHeld => ?_)
  clear hK K
  refine norm_ (a' := ?_) ?_ ?_
  rotate_left
  · show Act.put _ (some 18) _ = _
    simp only [Act.put, List.setIfInBounds_toArray, List.set_cons_zero, List.set_cons_succ, i64_w, i32_w]
    rfl
  refine pure_ (i := 9) (N := some 7) (v := ?_) (a' := ?_) #[true, true, true, true, true, true, true, true, true, true, false, false] rfl rfl (by kernel_rfl) (fun _ _ _ h => h) (Or.inl ⟨by rfl, ?_⟩) ?_ ?_
  rotate_left
  · intro w'
    go_simp
    with_reducible rfl
  rotate_left
  · simp only [Act.put, List.setIfInBounds_toArray, List.set_cons_zero, List.set_cons_succ, i64_w, i32_w]
    rfl
  refine pure_ (i := 10) (N := some 8) (v := ?_) (a' := ?_) #[true, true, true, true, true, true, true, true, true, true, true, false] rfl rfl (by kernel_rfl) (fun _ _ _ h => h) (Or.inl ⟨by rfl, ?_⟩) ?_ ?_
  rotate_left
  · intro w'
    go_simp
    with_reducible rfl
  rotate_left
  · simp only [Act.put, List.setIfInBounds_toArray, List.set_cons_zero, List.set_cons_succ, i64_w, i32_w]
    rfl
  refine pure_ (i := 11) (N := some 9) (v := ?_) (a' := ?_) #[true, true, true, true, true, true, true, true, true, true, true, true] rfl rfl (by kernel_rfl) (fun _ _ _ h => h) (Or.inl ⟨by rfl, ?_⟩) ?_ ?_
  rotate_left
  · intro w'
    go_simp
    with_reducible rfl
  rotate_left
  · simp only [Act.put, List.setIfInBounds_toArray, List.set_cons_zero, List.set_cons_succ, i64_w, i32_w]
    rfl
  refine done_ (by kernel_rfl) ?_
  clear hHeld
  have r0 := HS.cell 0
  have r1 := HS.cell 1
  have r2 := HS.cell 2
  have q0 := (HS.mv 1).cell 0
  have q1 := (HS.mv 1).cell 1
  have q2 := (HS.mv 1).cell 2
  have p0 := (HS.mv 2).cell 0
  have p1 := (HS.mv 2).cell 1
  have p2 := (HS.mv 2).cell 2
  go_wp2_with fail
  refine (awake_fun.call (F := [HP.obj g5 23 [.int .i64 kc, .int .i64 nc, .string sc], HP.obj g4 23 [.int .i64 kb, .int .i64 nb, .string sb], HP.obj g3 23 [.int .i64 ka, .int .i64 na, .string sa]]) HS (fun w' _ e _ => HR.out w' e)).mono ?_
  rintro e_ w8 ⟨rfl, HS_⟩
  clear HS r0 r1 r2 q0 q1 q2 p0 p1 p2
  have HS : St w S w8 [HP.obj g5 23 [.int .i64 kc, .int .i64 nc, .string sc], HP.obj g4 23 [.int .i64 kb, .int .i64 nb, .string sb], HP.obj g3 23 [.int .i64 ka, .int .i64 na, .string sa]] := HS_
  clear HS_
  have r0 := HS.cell 0
  have r1 := HS.cell 1
  have r2 := HS.cell 2
  have q0 := (HS.mv 1).cell 0
  have q1 := (HS.mv 1).cell 1
  have q2 := (HS.mv 1).cell 2
  have p0 := (HS.mv 2).cell 0
  have p1 := (HS.mv 2).cell 1
  have p2 := (HS.mv 2).cell 2
  go_wp2_with fail
  refine (HV4.out.call (F := [HP.obj g5 23 [.int .i64 kc, .int .i64 nc, .string sc], HP.obj g4 23 [.int .i64 kb, .int .i64 nb, .string sb], HP.obj g3 23 [.int .i64 ka, .int .i64 na, .string sa]]) HS (fun _ _ _ _ => trivial)).mono ?_
  rintro e_ w9 ⟨rfl, HS_⟩
  clear HS r0 r1 r2 q0 q1 q2 p0 p1 p2
  have HS : St w S w9 [HP.obj g5 23 [.int .i64 kc, .int .i64 nc, .string sc], HP.obj g4 23 [.int .i64 kb, .int .i64 nb, .string sb], HP.obj g3 23 [.int .i64 ka, .int .i64 na, .string sa]] := HS_
  clear HS_
  have r0 := HS.cell 0
  have r1 := HS.cell 1
  have r2 := HS.cell 2
  have q0 := (HS.mv 1).cell 0
  have q1 := (HS.mv 1).cell 1
  have q2 := (HS.mv 1).cell 2
  have p0 := (HS.mv 2).cell 0
  have p1 := (HS.mv 2).cell 1
  have p2 := (HS.mv 2).cell 2
  go_wp2_with fail
  all_goals first
    | (exfalso; exact HNE.out ⟨by assumption, by assumption, Str.ext _ _ (by assumption)⟩)
    | (go_ret; exact ⟨rfl, ((HS.out 0).out 0).out 0⟩)
    | (go_ret; exact ⟨by simp, ((HS.out 0).out 0).out 0⟩)
set_option maxHeartbeats 16000000 in
set_option maxRecDepth 40000 in
theorem order_1 (ka na : Int) (sa : ByteArray) (kb nb : Int) (sb : ByteArray) (kc nc : Int) (sc : ByteArray) (hab : cmpV ka na sa kb nb sb = 1) (hbc : cmpV kb nb sb kc nc sc = 0) (hac : cmpV ka na sa kc nc sc = 1) (hba : cmpV kb nb sb ka na sa = (-1)) : FunV Tryd.prog 8 #[.agg #[.int .i64 ka, .int .i64 na, .string sa], .agg #[.int .i64 kb, .int .i64 nb, .string sb], .agg #[.int .i64 kc, .int .i64 nc, .string sc]] Vars [] (.bool true) [] := by
  intro w S hS hR
  have HS := St.start hS
  have HR := Aside0.mk hR
  clear hS hR
  have huV := Tryd.underlying23
  have HNE := Aside0.mk (show ¬ (ka = kb ∧ na = nb ∧ sa = sb) from fun h => by have := (cmpV_zero ka na sa kb nb sb).2 h; omega)
  have hv1 := valcmp_fun ka na sa kb nb sb
  have hv2 := valcmp_fun kb nb sb kc nc sc
  have hv3 := valcmp_fun ka na sa kc nc sc
  have hv4 := valcmp_fun kb nb sb ka na sa
  change FunV _ _ _ _ _ (.int .i64 (cmpV ka na sa kb nb sb)) _ at hv1
  change FunV _ _ _ _ _ (.int .i64 (cmpV kb nb sb kc nc sc)) _ at hv2
  change FunV _ _ _ _ _ (.int .i64 (cmpV ka na sa kc nc sc)) _ at hv3
  change FunV _ _ _ _ _ (.int .i64 (cmpV kb nb sb ka na sa)) _ at hv4
  rw [hab] at hv1
  rw [hbc] at hv2
  rw [hac] at hv3
  rw [hba] at hv4
  have HV1 := Aside0.mk hv1
  have HV2 := Aside0.mk hv2
  have HV3 := Aside0.mk hv3
  have HV4 := Aside0.mk hv4
  clear hv1 hv2 hv3 hv4 hab hbc hac hba
  go_enter Tryd.func8, Tryd.ntmps8
  go_wp2_with (first
    | ((with_reducible refine gate_dst (N := 3) rfl ?_); refine ev_box ?hg (N := 3) ?hd (cs := [.int .i64 ka, .int .i64 na, .string sa]) (t := 23) HS ?hr ?_; (case hd => rfl); (case hg => rfl); (case hr => first | (go_simp; done) | (go_simp; rfl)); intro g3 w1 HS_ hg_; clear HS; have HS := HS_; clear HS_)
    | ((with_reducible refine gate_dst (N := 4) rfl ?_); refine ev_box ?hg (N := 4) ?hd (cs := [.int .i64 kb, .int .i64 nb, .string sb]) (t := 23) HS ?hr ?_; (case hd => rfl); (case hg => rfl); (case hr => first | (go_simp; done) | (go_simp; rfl)); intro g4 w2 HS_ hg_; clear HS; have HS := HS_; clear HS_)
    | ((with_reducible refine gate_dst (N := 5) rfl ?_); refine ev_box ?hg (N := 5) ?hd (cs := [.int .i64 kc, .int .i64 nc, .string sc]) (t := 23) HS ?hr ?_; (case hd => rfl); (case hg => rfl); (case hr => first | (go_simp; done) | (go_simp; rfl)); intro g5 w3 HS_ hg_; clear HS; have HS := HS_; clear HS_))
  refine start_ (n := 12) (S := fun w' => w'.cell? ⟨g5, 0, none⟩ = some (.int .i64 kc) ∧ w'.cell? ⟨g5, 1, none⟩ = some (.int .i64 nc) ∧ w'.cell? ⟨g5, 2, none⟩ = some (.string sc) ∧ w'.cell? ⟨g4, 0, none⟩ = some (.int .i64 kb) ∧ w'.cell? ⟨g4, 1, none⟩ = some (.int .i64 nb) ∧ w'.cell? ⟨g4, 2, none⟩ = some (.string sb) ∧ w'.cell? ⟨g3, 0, none⟩ = some (.int .i64 ka) ∧ w'.cell? ⟨g3, 1, none⟩ = some (.int .i64 na) ∧ w'.cell? ⟨g3, 2, none⟩ = some (.string sa)) (ds := []) #[false, false, false, false, false, false, false, false, false, false, false, false] (by kernel_rfl) rfl rfl ⟨HS.drew.cell 0, HS.drew.cell 1, HS.drew.cell 2, (HS.drew.mv 1).cell 0, (HS.drew.mv 1).cell 1, (HS.drew.mv 1).cell 2, (HS.drew.mv 2).cell 0, (HS.drew.mv 2).cell 1, (HS.drew.mv 2).cell 2⟩ (fun hHeld => ?_)
  refine take_ (i := 0) (N := some 10) (v := ?_) (a' := ?_) #[true, false, false, false, false, false, false, false, false, false, false, false] rfl rfl (by kernel_rfl) (fun _ _ _ h => h) (Or.inl ⟨by rfl, ?_⟩) hHeld ?_ ?_
  rotate_left
  · rintro w' ⟨s0, s1, s2, s3, s4, s5, s6, s7, s8⟩
    go_simp
    with_reducible rfl
  rotate_left
  · simp only [Act.put, List.setIfInBounds_toArray, List.set_cons_zero, List.set_cons_succ, i64_w, i32_w]
    rfl
  refine take_ (i := 1) (N := some 11) (v := ?_) (a' := ?_) #[true, true, false, false, false, false, false, false, false, false, false, false] rfl rfl (by kernel_rfl) (fun _ _ _ h => h) (Or.inl ⟨by rfl, ?_⟩) hHeld ?_ ?_
  rotate_left
  · rintro w' ⟨s0, s1, s2, s3, s4, s5, s6, s7, s8⟩
    go_simp
    with_reducible rfl
  rotate_left
  · simp only [Act.put, List.setIfInBounds_toArray, List.set_cons_zero, List.set_cons_succ, i64_w, i32_w]
    rfl
  refine take_ (i := 3) (N := some 13) (v := ?_) (a' := ?_) #[true, true, false, true, false, false, false, false, false, false, false, false] rfl rfl (by kernel_rfl) (fun _ _ _ h => h) (Or.inl ⟨by rfl, ?_⟩) hHeld ?_ ?_
  rotate_left
  · rintro w' ⟨s0, s1, s2, s3, s4, s5, s6, s7, s8⟩
    go_simp
    with_reducible rfl
  rotate_left
  · simp only [Act.put, List.setIfInBounds_toArray, List.set_cons_zero, List.set_cons_succ, i64_w, i32_w]
    rfl
  refine take_ (i := 4) (N := some 14) (v := ?_) (a' := ?_) #[true, true, false, true, true, false, false, false, false, false, false, false] rfl rfl (by kernel_rfl) (fun _ _ _ h => h) (Or.inl ⟨by rfl, ?_⟩) hHeld ?_ ?_
  rotate_left
  · rintro w' ⟨s0, s1, s2, s3, s4, s5, s6, s7, s8⟩
    go_simp
    with_reducible rfl
  rotate_left
  · simp only [Act.put, List.setIfInBounds_toArray, List.set_cons_zero, List.set_cons_succ, i64_w, i32_w]
    rfl
  refine take_ (i := 6) (N := some 16) (v := ?_) (a' := ?_) #[true, true, false, true, true, false, true, false, false, false, false, false] rfl rfl (by kernel_rfl) (fun _ _ _ h => h) (Or.inl ⟨by rfl, ?_⟩) hHeld ?_ ?_
  rotate_left
  · rintro w' ⟨s0, s1, s2, s3, s4, s5, s6, s7, s8⟩
    go_simp
    with_reducible rfl
  rotate_left
  · simp only [Act.put, List.setIfInBounds_toArray, List.set_cons_zero, List.set_cons_succ, i64_w, i32_w]
    rfl
  refine take_ (i := 7) (N := some 17) (v := ?_) (a' := ?_) #[true, true, false, true, true, false, true, true, false, false, false, false] rfl rfl (by kernel_rfl) (fun _ _ _ h => h) (Or.inl ⟨by rfl, ?_⟩) hHeld ?_ ?_
  rotate_left
  · rintro w' ⟨s0, s1, s2, s3, s4, s5, s6, s7, s8⟩
    go_simp
    with_reducible rfl
  rotate_left
  · simp only [Act.put, List.setIfInBounds_toArray, List.set_cons_zero, List.set_cons_succ, i64_w, i32_w]
    rfl
  refine one_ (i := 2) (N := some 12) #[true, true, true, true, true, false, true, true, false, false, false, false] rfl rfl (by kernel_rfl) (by decide) (fun K hK => ?_)
  refine goes_ Tryd.func12 (by kernel_rfl) rfl #[.agg #[.int .i64 ka, .int .i64 na, .string sa], .agg #[.int .i64 kb, .int .i64 nb, .string sb]] (by rfl) rfl rfl (by first | (simp only [List.map_toArray, List.map_cons, List.map_nil]; rfl) | simp only [List.map_toArray, List.map_cons, List.map_nil] | rfl) ?_
  refine ((HV1.out).call (F := [HP.obj g5 23 [.int .i64 kc, .int .i64 nc, .string sc], HP.obj g4 23 [.int .i64 kb, .int .i64 nb, .string sb], HP.obj g3 23 [.int .i64 ka, .int .i64 na, .string sa]]) HS.drew (fun _ _ _ _ => trivial)).mono ?_
  rintro e_ w5 ⟨rfl, HS_⟩
  refine ⟨_, rfl, ?_⟩
  clear HS
  have HS : St w S w5 [HP.obj g5 23 [.int .i64 kc, .int .i64 nc, .string sc], HP.obj g4 23 [.int .i64 kb, .int .i64 nb, .string sb], HP.obj g3 23 [.int .i64 ka, .int .i64 na, .string sa]] := HS_
  clear HS_
  refine hK.out _ _ ⟨HS.cell 0, HS.cell 1, HS.cell 2, (HS.mv 1).cell 0, (HS.mv 1).cell 1, (HS.mv 1).cell 2, (HS.mv 2).cell 0, (HS.mv 2).cell 1, (HS.mv 2).cell 2⟩ (fun hHeld => ?_)
  clear hK K
  refine norm_ (a' := ?_) ?_ ?_
  rotate_left
  · show Act.put _ (some 12) _ = _
    simp only [Act.put, List.setIfInBounds_toArray, List.set_cons_zero, List.set_cons_succ, i64_w, i32_w]
    rfl
  refine one_ (i := 5) (N := some 15) #[true, true, true, true, true, true, true, true, false, false, false, false] rfl rfl (by kernel_rfl) (by decide) (fun K hK => ?_)
  refine goes_ Tryd.func12 (by kernel_rfl) rfl #[.agg #[.int .i64 kb, .int .i64 nb, .string sb], .agg #[.int .i64 kc, .int .i64 nc, .string sc]] (by rfl) rfl rfl (by first | (simp only [List.map_toArray, List.map_cons, List.map_nil]; rfl) | simp only [List.map_toArray, List.map_cons, List.map_nil] | rfl) ?_
  refine ((HV2.out).call (F := [HP.obj g5 23 [.int .i64 kc, .int .i64 nc, .string sc], HP.obj g4 23 [.int .i64 kb, .int .i64 nb, .string sb], HP.obj g3 23 [.int .i64 ka, .int .i64 na, .string sa]]) HS (fun _ _ _ _ => trivial)).mono ?_
  rintro e_ w6 ⟨rfl, HS_⟩
  refine ⟨_, rfl, ?_⟩
  clear HS
  have HS : St w S w6 [HP.obj g5 23 [.int .i64 kc, .int .i64 nc, .string sc], HP.obj g4 23 [.int .i64 kb, .int .i64 nb, .string sb], HP.obj g3 23 [.int .i64 ka, .int .i64 na, .string sa]] := HS_
  clear HS_
  refine hK.out _ _ ⟨HS.cell 0, HS.cell 1, HS.cell 2, (HS.mv 1).cell 0, (HS.mv 1).cell 1, (HS.mv 1).cell 2, (HS.mv 2).cell 0, (HS.mv 2).cell 1, (HS.mv 2).cell 2⟩ (fun hHeld => ?_)
  clear hK K
  refine norm_ (a' := ?_) ?_ ?_
  rotate_left
  · show Act.put _ (some 15) _ = _
    simp only [Act.put, List.setIfInBounds_toArray, List.set_cons_zero, List.set_cons_succ, i64_w, i32_w]
    rfl
  refine one_ (i := 8) (N := some 18) #[true, true, true, true, true, true, true, true, true, false, false, false] rfl rfl (by kernel_rfl) (by decide) (fun K hK => ?_)
  refine goes_ Tryd.func12 (by kernel_rfl) rfl #[.agg #[.int .i64 ka, .int .i64 na, .string sa], .agg #[.int .i64 kc, .int .i64 nc, .string sc]] (by rfl) rfl rfl (by first | (simp only [List.map_toArray, List.map_cons, List.map_nil]; rfl) | simp only [List.map_toArray, List.map_cons, List.map_nil] | rfl) ?_
  refine ((HV3.out).call (F := [HP.obj g5 23 [.int .i64 kc, .int .i64 nc, .string sc], HP.obj g4 23 [.int .i64 kb, .int .i64 nb, .string sb], HP.obj g3 23 [.int .i64 ka, .int .i64 na, .string sa]]) HS (fun _ _ _ _ => trivial)).mono ?_
  rintro e_ w7 ⟨rfl, HS_⟩
  refine ⟨_, rfl, ?_⟩
  clear HS
  have HS : St w S w7 [HP.obj g5 23 [.int .i64 kc, .int .i64 nc, .string sc], HP.obj g4 23 [.int .i64 kb, .int .i64 nb, .string sb], HP.obj g3 23 [.int .i64 ka, .int .i64 na, .string sa]] := HS_
  clear HS_
  refine hK.out _ _ ⟨HS.cell 0, HS.cell 1, HS.cell 2, (HS.mv 1).cell 0, (HS.mv 1).cell 1, (HS.mv 1).cell 2, (HS.mv 2).cell 0, (HS.mv 2).cell 1, (HS.mv 2).cell 2⟩ (fun hHeld => ?_)
  clear hK K
  refine norm_ (a' := ?_) ?_ ?_
  rotate_left
  · show Act.put _ (some 18) _ = _
    simp only [Act.put, List.setIfInBounds_toArray, List.set_cons_zero, List.set_cons_succ, i64_w, i32_w]
    rfl
  refine pure_ (i := 9) (N := some 7) (v := ?_) (a' := ?_) #[true, true, true, true, true, true, true, true, true, true, false, false] rfl rfl (by kernel_rfl) (fun _ _ _ h => h) (Or.inl ⟨by rfl, ?_⟩) ?_ ?_
  rotate_left
  · intro w'
    go_simp
    with_reducible rfl
  rotate_left
  · simp only [Act.put, List.setIfInBounds_toArray, List.set_cons_zero, List.set_cons_succ, i64_w, i32_w]
    rfl
  refine pure_ (i := 10) (N := some 8) (v := ?_) (a' := ?_) #[true, true, true, true, true, true, true, true, true, true, true, false] rfl rfl (by kernel_rfl) (fun _ _ _ h => h) (Or.inl ⟨by rfl, ?_⟩) ?_ ?_
  rotate_left
  · intro w'
    go_simp
    with_reducible rfl
  rotate_left
  · simp only [Act.put, List.setIfInBounds_toArray, List.set_cons_zero, List.set_cons_succ, i64_w, i32_w]
    rfl
  refine pure_ (i := 11) (N := some 9) (v := ?_) (a' := ?_) #[true, true, true, true, true, true, true, true, true, true, true, true] rfl rfl (by kernel_rfl) (fun _ _ _ h => h) (Or.inl ⟨by rfl, ?_⟩) ?_ ?_
  rotate_left
  · intro w'
    go_simp
    with_reducible rfl
  rotate_left
  · simp only [Act.put, List.setIfInBounds_toArray, List.set_cons_zero, List.set_cons_succ, i64_w, i32_w]
    rfl
  refine done_ (by kernel_rfl) ?_
  clear hHeld
  have r0 := HS.cell 0
  have r1 := HS.cell 1
  have r2 := HS.cell 2
  have q0 := (HS.mv 1).cell 0
  have q1 := (HS.mv 1).cell 1
  have q2 := (HS.mv 1).cell 2
  have p0 := (HS.mv 2).cell 0
  have p1 := (HS.mv 2).cell 1
  have p2 := (HS.mv 2).cell 2
  go_wp2_with fail
  refine (awake_fun.call (F := [HP.obj g5 23 [.int .i64 kc, .int .i64 nc, .string sc], HP.obj g4 23 [.int .i64 kb, .int .i64 nb, .string sb], HP.obj g3 23 [.int .i64 ka, .int .i64 na, .string sa]]) HS (fun w' _ e _ => HR.out w' e)).mono ?_
  rintro e_ w8 ⟨rfl, HS_⟩
  clear HS r0 r1 r2 q0 q1 q2 p0 p1 p2
  have HS : St w S w8 [HP.obj g5 23 [.int .i64 kc, .int .i64 nc, .string sc], HP.obj g4 23 [.int .i64 kb, .int .i64 nb, .string sb], HP.obj g3 23 [.int .i64 ka, .int .i64 na, .string sa]] := HS_
  clear HS_
  have r0 := HS.cell 0
  have r1 := HS.cell 1
  have r2 := HS.cell 2
  have q0 := (HS.mv 1).cell 0
  have q1 := (HS.mv 1).cell 1
  have q2 := (HS.mv 1).cell 2
  have p0 := (HS.mv 2).cell 0
  have p1 := (HS.mv 2).cell 1
  have p2 := (HS.mv 2).cell 2
  go_wp2_with fail
  refine (HV4.out.call (F := [HP.obj g5 23 [.int .i64 kc, .int .i64 nc, .string sc], HP.obj g4 23 [.int .i64 kb, .int .i64 nb, .string sb], HP.obj g3 23 [.int .i64 ka, .int .i64 na, .string sa]]) HS (fun _ _ _ _ => trivial)).mono ?_
  rintro e_ w9 ⟨rfl, HS_⟩
  clear HS r0 r1 r2 q0 q1 q2 p0 p1 p2
  have HS : St w S w9 [HP.obj g5 23 [.int .i64 kc, .int .i64 nc, .string sc], HP.obj g4 23 [.int .i64 kb, .int .i64 nb, .string sb], HP.obj g3 23 [.int .i64 ka, .int .i64 na, .string sa]] := HS_
  clear HS_
  have r0 := HS.cell 0
  have r1 := HS.cell 1
  have r2 := HS.cell 2
  have q0 := (HS.mv 1).cell 0
  have q1 := (HS.mv 1).cell 1
  have q2 := (HS.mv 1).cell 2
  have p0 := (HS.mv 2).cell 0
  have p1 := (HS.mv 2).cell 1
  have p2 := (HS.mv 2).cell 2
  go_wp2_with fail
  all_goals first
    | (exfalso; exact HNE.out ⟨by assumption, by assumption, Str.ext _ _ (by assumption)⟩)
    | (go_ret; exact ⟨rfl, ((HS.out 0).out 0).out 0⟩)
    | (go_ret; exact ⟨by simp, ((HS.out 0).out 0).out 0⟩)
set_option maxHeartbeats 16000000 in
set_option maxRecDepth 40000 in
theorem order_2 (ka na : Int) (sa : ByteArray) (kb nb : Int) (sb : ByteArray) (kc nc : Int) (sc : ByteArray) (hab : cmpV ka na sa kb nb sb = 1) (hbc : cmpV kb nb sb kc nc sc = 1) (hac : cmpV ka na sa kc nc sc = 1) (hba : cmpV kb nb sb ka na sa = (-1)) : FunV Tryd.prog 8 #[.agg #[.int .i64 ka, .int .i64 na, .string sa], .agg #[.int .i64 kb, .int .i64 nb, .string sb], .agg #[.int .i64 kc, .int .i64 nc, .string sc]] Vars [] (.bool true) [] := by
  intro w S hS hR
  have HS := St.start hS
  have HR := Aside0.mk hR
  clear hS hR
  have huV := Tryd.underlying23
  have HNE := Aside0.mk (show ¬ (ka = kb ∧ na = nb ∧ sa = sb) from fun h => by have := (cmpV_zero ka na sa kb nb sb).2 h; omega)
  have hv1 := valcmp_fun ka na sa kb nb sb
  have hv2 := valcmp_fun kb nb sb kc nc sc
  have hv3 := valcmp_fun ka na sa kc nc sc
  have hv4 := valcmp_fun kb nb sb ka na sa
  change FunV _ _ _ _ _ (.int .i64 (cmpV ka na sa kb nb sb)) _ at hv1
  change FunV _ _ _ _ _ (.int .i64 (cmpV kb nb sb kc nc sc)) _ at hv2
  change FunV _ _ _ _ _ (.int .i64 (cmpV ka na sa kc nc sc)) _ at hv3
  change FunV _ _ _ _ _ (.int .i64 (cmpV kb nb sb ka na sa)) _ at hv4
  rw [hab] at hv1
  rw [hbc] at hv2
  rw [hac] at hv3
  rw [hba] at hv4
  have HV1 := Aside0.mk hv1
  have HV2 := Aside0.mk hv2
  have HV3 := Aside0.mk hv3
  have HV4 := Aside0.mk hv4
  clear hv1 hv2 hv3 hv4 hab hbc hac hba
  go_enter Tryd.func8, Tryd.ntmps8
  go_wp2_with (first
    | ((with_reducible refine gate_dst (N := 3) rfl ?_); refine ev_box ?hg (N := 3) ?hd (cs := [.int .i64 ka, .int .i64 na, .string sa]) (t := 23) HS ?hr ?_; (case hd => rfl); (case hg => rfl); (case hr => first | (go_simp; done) | (go_simp; rfl)); intro g3 w1 HS_ hg_; clear HS; have HS := HS_; clear HS_)
    | ((with_reducible refine gate_dst (N := 4) rfl ?_); refine ev_box ?hg (N := 4) ?hd (cs := [.int .i64 kb, .int .i64 nb, .string sb]) (t := 23) HS ?hr ?_; (case hd => rfl); (case hg => rfl); (case hr => first | (go_simp; done) | (go_simp; rfl)); intro g4 w2 HS_ hg_; clear HS; have HS := HS_; clear HS_)
    | ((with_reducible refine gate_dst (N := 5) rfl ?_); refine ev_box ?hg (N := 5) ?hd (cs := [.int .i64 kc, .int .i64 nc, .string sc]) (t := 23) HS ?hr ?_; (case hd => rfl); (case hg => rfl); (case hr => first | (go_simp; done) | (go_simp; rfl)); intro g5 w3 HS_ hg_; clear HS; have HS := HS_; clear HS_))
  refine start_ (n := 12) (S := fun w' => w'.cell? ⟨g5, 0, none⟩ = some (.int .i64 kc) ∧ w'.cell? ⟨g5, 1, none⟩ = some (.int .i64 nc) ∧ w'.cell? ⟨g5, 2, none⟩ = some (.string sc) ∧ w'.cell? ⟨g4, 0, none⟩ = some (.int .i64 kb) ∧ w'.cell? ⟨g4, 1, none⟩ = some (.int .i64 nb) ∧ w'.cell? ⟨g4, 2, none⟩ = some (.string sb) ∧ w'.cell? ⟨g3, 0, none⟩ = some (.int .i64 ka) ∧ w'.cell? ⟨g3, 1, none⟩ = some (.int .i64 na) ∧ w'.cell? ⟨g3, 2, none⟩ = some (.string sa)) (ds := []) #[false, false, false, false, false, false, false, false, false, false, false, false] (by kernel_rfl) rfl rfl ⟨HS.drew.cell 0, HS.drew.cell 1, HS.drew.cell 2, (HS.drew.mv 1).cell 0, (HS.drew.mv 1).cell 1, (HS.drew.mv 1).cell 2, (HS.drew.mv 2).cell 0, (HS.drew.mv 2).cell 1, (HS.drew.mv 2).cell 2⟩ (fun hHeld => ?_)
  refine take_ (i := 0) (N := some 10) (v := ?_) (a' := ?_) #[true, false, false, false, false, false, false, false, false, false, false, false] rfl rfl (by kernel_rfl) (fun _ _ _ h => h) (Or.inl ⟨by rfl, ?_⟩) hHeld ?_ ?_
  rotate_left
  · rintro w' ⟨s0, s1, s2, s3, s4, s5, s6, s7, s8⟩
    go_simp
    with_reducible rfl
  rotate_left
  · simp only [Act.put, List.setIfInBounds_toArray, List.set_cons_zero, List.set_cons_succ, i64_w, i32_w]
    rfl
  refine take_ (i := 1) (N := some 11) (v := ?_) (a' := ?_) #[true, true, false, false, false, false, false, false, false, false, false, false] rfl rfl (by kernel_rfl) (fun _ _ _ h => h) (Or.inl ⟨by rfl, ?_⟩) hHeld ?_ ?_
  rotate_left
  · rintro w' ⟨s0, s1, s2, s3, s4, s5, s6, s7, s8⟩
    go_simp
    with_reducible rfl
  rotate_left
  · simp only [Act.put, List.setIfInBounds_toArray, List.set_cons_zero, List.set_cons_succ, i64_w, i32_w]
    rfl
  refine take_ (i := 3) (N := some 13) (v := ?_) (a' := ?_) #[true, true, false, true, false, false, false, false, false, false, false, false] rfl rfl (by kernel_rfl) (fun _ _ _ h => h) (Or.inl ⟨by rfl, ?_⟩) hHeld ?_ ?_
  rotate_left
  · rintro w' ⟨s0, s1, s2, s3, s4, s5, s6, s7, s8⟩
    go_simp
    with_reducible rfl
  rotate_left
  · simp only [Act.put, List.setIfInBounds_toArray, List.set_cons_zero, List.set_cons_succ, i64_w, i32_w]
    rfl
  refine take_ (i := 4) (N := some 14) (v := ?_) (a' := ?_) #[true, true, false, true, true, false, false, false, false, false, false, false] rfl rfl (by kernel_rfl) (fun _ _ _ h => h) (Or.inl ⟨by rfl, ?_⟩) hHeld ?_ ?_
  rotate_left
  · rintro w' ⟨s0, s1, s2, s3, s4, s5, s6, s7, s8⟩
    go_simp
    with_reducible rfl
  rotate_left
  · simp only [Act.put, List.setIfInBounds_toArray, List.set_cons_zero, List.set_cons_succ, i64_w, i32_w]
    rfl
  refine take_ (i := 6) (N := some 16) (v := ?_) (a' := ?_) #[true, true, false, true, true, false, true, false, false, false, false, false] rfl rfl (by kernel_rfl) (fun _ _ _ h => h) (Or.inl ⟨by rfl, ?_⟩) hHeld ?_ ?_
  rotate_left
  · rintro w' ⟨s0, s1, s2, s3, s4, s5, s6, s7, s8⟩
    go_simp
    with_reducible rfl
  rotate_left
  · simp only [Act.put, List.setIfInBounds_toArray, List.set_cons_zero, List.set_cons_succ, i64_w, i32_w]
    rfl
  refine take_ (i := 7) (N := some 17) (v := ?_) (a' := ?_) #[true, true, false, true, true, false, true, true, false, false, false, false] rfl rfl (by kernel_rfl) (fun _ _ _ h => h) (Or.inl ⟨by rfl, ?_⟩) hHeld ?_ ?_
  rotate_left
  · rintro w' ⟨s0, s1, s2, s3, s4, s5, s6, s7, s8⟩
    go_simp
    with_reducible rfl
  rotate_left
  · simp only [Act.put, List.setIfInBounds_toArray, List.set_cons_zero, List.set_cons_succ, i64_w, i32_w]
    rfl
  refine one_ (i := 2) (N := some 12) #[true, true, true, true, true, false, true, true, false, false, false, false] rfl rfl (by kernel_rfl) (by decide) (fun K hK => ?_)
  refine goes_ Tryd.func12 (by kernel_rfl) rfl #[.agg #[.int .i64 ka, .int .i64 na, .string sa], .agg #[.int .i64 kb, .int .i64 nb, .string sb]] (by rfl) rfl rfl (by first | (simp only [List.map_toArray, List.map_cons, List.map_nil]; rfl) | simp only [List.map_toArray, List.map_cons, List.map_nil] | rfl) ?_
  refine ((HV1.out).call (F := [HP.obj g5 23 [.int .i64 kc, .int .i64 nc, .string sc], HP.obj g4 23 [.int .i64 kb, .int .i64 nb, .string sb], HP.obj g3 23 [.int .i64 ka, .int .i64 na, .string sa]]) HS.drew (fun _ _ _ _ => trivial)).mono ?_
  rintro e_ w5 ⟨rfl, HS_⟩
  refine ⟨_, rfl, ?_⟩
  clear HS
  have HS : St w S w5 [HP.obj g5 23 [.int .i64 kc, .int .i64 nc, .string sc], HP.obj g4 23 [.int .i64 kb, .int .i64 nb, .string sb], HP.obj g3 23 [.int .i64 ka, .int .i64 na, .string sa]] := HS_
  clear HS_
  refine hK.out _ _ ⟨HS.cell 0, HS.cell 1, HS.cell 2, (HS.mv 1).cell 0, (HS.mv 1).cell 1, (HS.mv 1).cell 2, (HS.mv 2).cell 0, (HS.mv 2).cell 1, (HS.mv 2).cell 2⟩ (fun hHeld => ?_)
  clear hK K
  refine norm_ (a' := ?_) ?_ ?_
  rotate_left
  · show Act.put _ (some 12) _ = _
    simp only [Act.put, List.setIfInBounds_toArray, List.set_cons_zero, List.set_cons_succ, i64_w, i32_w]
    rfl
  refine one_ (i := 5) (N := some 15) #[true, true, true, true, true, true, true, true, false, false, false, false] rfl rfl (by kernel_rfl) (by decide) (fun K hK => ?_)
  refine goes_ Tryd.func12 (by kernel_rfl) rfl #[.agg #[.int .i64 kb, .int .i64 nb, .string sb], .agg #[.int .i64 kc, .int .i64 nc, .string sc]] (by rfl) rfl rfl (by first | (simp only [List.map_toArray, List.map_cons, List.map_nil]; rfl) | simp only [List.map_toArray, List.map_cons, List.map_nil] | rfl) ?_
  refine ((HV2.out).call (F := [HP.obj g5 23 [.int .i64 kc, .int .i64 nc, .string sc], HP.obj g4 23 [.int .i64 kb, .int .i64 nb, .string sb], HP.obj g3 23 [.int .i64 ka, .int .i64 na, .string sa]]) HS (fun _ _ _ _ => trivial)).mono ?_
  rintro e_ w6 ⟨rfl, HS_⟩
  refine ⟨_, rfl, ?_⟩
  clear HS
  have HS : St w S w6 [HP.obj g5 23 [.int .i64 kc, .int .i64 nc, .string sc], HP.obj g4 23 [.int .i64 kb, .int .i64 nb, .string sb], HP.obj g3 23 [.int .i64 ka, .int .i64 na, .string sa]] := HS_
  clear HS_
  refine hK.out _ _ ⟨HS.cell 0, HS.cell 1, HS.cell 2, (HS.mv 1).cell 0, (HS.mv 1).cell 1, (HS.mv 1).cell 2, (HS.mv 2).cell 0, (HS.mv 2).cell 1, (HS.mv 2).cell 2⟩ (fun hHeld => ?_)
  clear hK K
  refine norm_ (a' := ?_) ?_ ?_
  rotate_left
  · show Act.put _ (some 15) _ = _
    simp only [Act.put, List.setIfInBounds_toArray, List.set_cons_zero, List.set_cons_succ, i64_w, i32_w]
    rfl
  refine one_ (i := 8) (N := some 18) #[true, true, true, true, true, true, true, true, true, false, false, false] rfl rfl (by kernel_rfl) (by decide) (fun K hK => ?_)
  refine goes_ Tryd.func12 (by kernel_rfl) rfl #[.agg #[.int .i64 ka, .int .i64 na, .string sa], .agg #[.int .i64 kc, .int .i64 nc, .string sc]] (by rfl) rfl rfl (by first | (simp only [List.map_toArray, List.map_cons, List.map_nil]; rfl) | simp only [List.map_toArray, List.map_cons, List.map_nil] | rfl) ?_
  refine ((HV3.out).call (F := [HP.obj g5 23 [.int .i64 kc, .int .i64 nc, .string sc], HP.obj g4 23 [.int .i64 kb, .int .i64 nb, .string sb], HP.obj g3 23 [.int .i64 ka, .int .i64 na, .string sa]]) HS (fun _ _ _ _ => trivial)).mono ?_
  rintro e_ w7 ⟨rfl, HS_⟩
  refine ⟨_, rfl, ?_⟩
  clear HS
  have HS : St w S w7 [HP.obj g5 23 [.int .i64 kc, .int .i64 nc, .string sc], HP.obj g4 23 [.int .i64 kb, .int .i64 nb, .string sb], HP.obj g3 23 [.int .i64 ka, .int .i64 na, .string sa]] := HS_
  clear HS_
  refine hK.out _ _ ⟨HS.cell 0, HS.cell 1, HS.cell 2, (HS.mv 1).cell 0, (HS.mv 1).cell 1, (HS.mv 1).cell 2, (HS.mv 2).cell 0, (HS.mv 2).cell 1, (HS.mv 2).cell 2⟩ (fun hHeld => ?_)
  clear hK K
  refine norm_ (a' := ?_) ?_ ?_
  rotate_left
  · show Act.put _ (some 18) _ = _
    simp only [Act.put, List.setIfInBounds_toArray, List.set_cons_zero, List.set_cons_succ, i64_w, i32_w]
    rfl
  refine pure_ (i := 9) (N := some 7) (v := ?_) (a' := ?_) #[true, true, true, true, true, true, true, true, true, true, false, false] rfl rfl (by kernel_rfl) (fun _ _ _ h => h) (Or.inl ⟨by rfl, ?_⟩) ?_ ?_
  rotate_left
  · intro w'
    go_simp
    with_reducible rfl
  rotate_left
  · simp only [Act.put, List.setIfInBounds_toArray, List.set_cons_zero, List.set_cons_succ, i64_w, i32_w]
    rfl
  refine pure_ (i := 10) (N := some 8) (v := ?_) (a' := ?_) #[true, true, true, true, true, true, true, true, true, true, true, false] rfl rfl (by kernel_rfl) (fun _ _ _ h => h) (Or.inl ⟨by rfl, ?_⟩) ?_ ?_
  rotate_left
  · intro w'
    go_simp
    with_reducible rfl
  rotate_left
  · simp only [Act.put, List.setIfInBounds_toArray, List.set_cons_zero, List.set_cons_succ, i64_w, i32_w]
    rfl
  refine pure_ (i := 11) (N := some 9) (v := ?_) (a' := ?_) #[true, true, true, true, true, true, true, true, true, true, true, true] rfl rfl (by kernel_rfl) (fun _ _ _ h => h) (Or.inl ⟨by rfl, ?_⟩) ?_ ?_
  rotate_left
  · intro w'
    go_simp
    with_reducible rfl
  rotate_left
  · simp only [Act.put, List.setIfInBounds_toArray, List.set_cons_zero, List.set_cons_succ, i64_w, i32_w]
    rfl
  refine done_ (by kernel_rfl) ?_
  clear hHeld
  have r0 := HS.cell 0
  have r1 := HS.cell 1
  have r2 := HS.cell 2
  have q0 := (HS.mv 1).cell 0
  have q1 := (HS.mv 1).cell 1
  have q2 := (HS.mv 1).cell 2
  have p0 := (HS.mv 2).cell 0
  have p1 := (HS.mv 2).cell 1
  have p2 := (HS.mv 2).cell 2
  go_wp2_with fail
  refine (awake_fun.call (F := [HP.obj g5 23 [.int .i64 kc, .int .i64 nc, .string sc], HP.obj g4 23 [.int .i64 kb, .int .i64 nb, .string sb], HP.obj g3 23 [.int .i64 ka, .int .i64 na, .string sa]]) HS (fun w' _ e _ => HR.out w' e)).mono ?_
  rintro e_ w8 ⟨rfl, HS_⟩
  clear HS r0 r1 r2 q0 q1 q2 p0 p1 p2
  have HS : St w S w8 [HP.obj g5 23 [.int .i64 kc, .int .i64 nc, .string sc], HP.obj g4 23 [.int .i64 kb, .int .i64 nb, .string sb], HP.obj g3 23 [.int .i64 ka, .int .i64 na, .string sa]] := HS_
  clear HS_
  have r0 := HS.cell 0
  have r1 := HS.cell 1
  have r2 := HS.cell 2
  have q0 := (HS.mv 1).cell 0
  have q1 := (HS.mv 1).cell 1
  have q2 := (HS.mv 1).cell 2
  have p0 := (HS.mv 2).cell 0
  have p1 := (HS.mv 2).cell 1
  have p2 := (HS.mv 2).cell 2
  go_wp2_with fail
  refine (HV4.out.call (F := [HP.obj g5 23 [.int .i64 kc, .int .i64 nc, .string sc], HP.obj g4 23 [.int .i64 kb, .int .i64 nb, .string sb], HP.obj g3 23 [.int .i64 ka, .int .i64 na, .string sa]]) HS (fun _ _ _ _ => trivial)).mono ?_
  rintro e_ w9 ⟨rfl, HS_⟩
  clear HS r0 r1 r2 q0 q1 q2 p0 p1 p2
  have HS : St w S w9 [HP.obj g5 23 [.int .i64 kc, .int .i64 nc, .string sc], HP.obj g4 23 [.int .i64 kb, .int .i64 nb, .string sb], HP.obj g3 23 [.int .i64 ka, .int .i64 na, .string sa]] := HS_
  clear HS_
  have r0 := HS.cell 0
  have r1 := HS.cell 1
  have r2 := HS.cell 2
  have q0 := (HS.mv 1).cell 0
  have q1 := (HS.mv 1).cell 1
  have q2 := (HS.mv 1).cell 2
  have p0 := (HS.mv 2).cell 0
  have p1 := (HS.mv 2).cell 1
  have p2 := (HS.mv 2).cell 2
  go_wp2_with fail
  all_goals first
    | (exfalso; exact HNE.out ⟨by assumption, by assumption, Str.ext _ _ (by assumption)⟩)
    | (go_ret; exact ⟨rfl, ((HS.out 0).out 0).out 0⟩)
    | (go_ret; exact ⟨by simp, ((HS.out 0).out 0).out 0⟩)
set_option maxHeartbeats 16000000 in
set_option maxRecDepth 40000 in
theorem order_3 (ka na : Int) (sa : ByteArray) (kb nb : Int) (sb : ByteArray) (kc nc : Int) (sc : ByteArray) (hab : cmpV ka na sa kb nb sb = (-1)) (hbc : cmpV kb nb sb kc nc sc = 1) (z : Int) (hac : cmpV ka na sa kc nc sc = z) (hba : cmpV kb nb sb ka na sa = 1) : FunV Tryd.prog 8 #[.agg #[.int .i64 ka, .int .i64 na, .string sa], .agg #[.int .i64 kb, .int .i64 nb, .string sb], .agg #[.int .i64 kc, .int .i64 nc, .string sc]] Vars [] (.bool true) [] := by
  intro w S hS hR
  have HS := St.start hS
  have HR := Aside0.mk hR
  clear hS hR
  have huV := Tryd.underlying23
  have HNE := Aside0.mk (show ¬ (ka = kb ∧ na = nb ∧ sa = sb) from fun h => by have := (cmpV_zero ka na sa kb nb sb).2 h; omega)
  have hv1 := valcmp_fun ka na sa kb nb sb
  have hv2 := valcmp_fun kb nb sb kc nc sc
  have hv3 := valcmp_fun ka na sa kc nc sc
  have hv4 := valcmp_fun kb nb sb ka na sa
  change FunV _ _ _ _ _ (.int .i64 (cmpV ka na sa kb nb sb)) _ at hv1
  change FunV _ _ _ _ _ (.int .i64 (cmpV kb nb sb kc nc sc)) _ at hv2
  change FunV _ _ _ _ _ (.int .i64 (cmpV ka na sa kc nc sc)) _ at hv3
  change FunV _ _ _ _ _ (.int .i64 (cmpV kb nb sb ka na sa)) _ at hv4
  rw [hab] at hv1
  rw [hbc] at hv2
  rw [hac] at hv3
  rw [hba] at hv4
  have HV1 := Aside0.mk hv1
  have HV2 := Aside0.mk hv2
  have HV3 := Aside0.mk hv3
  have HV4 := Aside0.mk hv4
  clear hv1 hv2 hv3 hv4 hab hbc hac hba
  go_enter Tryd.func8, Tryd.ntmps8
  go_wp2_with (first
    | ((with_reducible refine gate_dst (N := 3) rfl ?_); refine ev_box ?hg (N := 3) ?hd (cs := [.int .i64 ka, .int .i64 na, .string sa]) (t := 23) HS ?hr ?_; (case hd => rfl); (case hg => rfl); (case hr => first | (go_simp; done) | (go_simp; rfl)); intro g3 w1 HS_ hg_; clear HS; have HS := HS_; clear HS_)
    | ((with_reducible refine gate_dst (N := 4) rfl ?_); refine ev_box ?hg (N := 4) ?hd (cs := [.int .i64 kb, .int .i64 nb, .string sb]) (t := 23) HS ?hr ?_; (case hd => rfl); (case hg => rfl); (case hr => first | (go_simp; done) | (go_simp; rfl)); intro g4 w2 HS_ hg_; clear HS; have HS := HS_; clear HS_)
    | ((with_reducible refine gate_dst (N := 5) rfl ?_); refine ev_box ?hg (N := 5) ?hd (cs := [.int .i64 kc, .int .i64 nc, .string sc]) (t := 23) HS ?hr ?_; (case hd => rfl); (case hg => rfl); (case hr => first | (go_simp; done) | (go_simp; rfl)); intro g5 w3 HS_ hg_; clear HS; have HS := HS_; clear HS_))
  refine start_ (n := 12) (S := fun w' => w'.cell? ⟨g5, 0, none⟩ = some (.int .i64 kc) ∧ w'.cell? ⟨g5, 1, none⟩ = some (.int .i64 nc) ∧ w'.cell? ⟨g5, 2, none⟩ = some (.string sc) ∧ w'.cell? ⟨g4, 0, none⟩ = some (.int .i64 kb) ∧ w'.cell? ⟨g4, 1, none⟩ = some (.int .i64 nb) ∧ w'.cell? ⟨g4, 2, none⟩ = some (.string sb) ∧ w'.cell? ⟨g3, 0, none⟩ = some (.int .i64 ka) ∧ w'.cell? ⟨g3, 1, none⟩ = some (.int .i64 na) ∧ w'.cell? ⟨g3, 2, none⟩ = some (.string sa)) (ds := []) #[false, false, false, false, false, false, false, false, false, false, false, false] (by kernel_rfl) rfl rfl ⟨HS.drew.cell 0, HS.drew.cell 1, HS.drew.cell 2, (HS.drew.mv 1).cell 0, (HS.drew.mv 1).cell 1, (HS.drew.mv 1).cell 2, (HS.drew.mv 2).cell 0, (HS.drew.mv 2).cell 1, (HS.drew.mv 2).cell 2⟩ (fun hHeld => ?_)
  refine take_ (i := 0) (N := some 10) (v := ?_) (a' := ?_) #[true, false, false, false, false, false, false, false, false, false, false, false] rfl rfl (by kernel_rfl) (fun _ _ _ h => h) (Or.inl ⟨by rfl, ?_⟩) hHeld ?_ ?_
  rotate_left
  · rintro w' ⟨s0, s1, s2, s3, s4, s5, s6, s7, s8⟩
    go_simp
    with_reducible rfl
  rotate_left
  · simp only [Act.put, List.setIfInBounds_toArray, List.set_cons_zero, List.set_cons_succ, i64_w, i32_w]
    rfl
  refine take_ (i := 1) (N := some 11) (v := ?_) (a' := ?_) #[true, true, false, false, false, false, false, false, false, false, false, false] rfl rfl (by kernel_rfl) (fun _ _ _ h => h) (Or.inl ⟨by rfl, ?_⟩) hHeld ?_ ?_
  rotate_left
  · rintro w' ⟨s0, s1, s2, s3, s4, s5, s6, s7, s8⟩
    go_simp
    with_reducible rfl
  rotate_left
  · simp only [Act.put, List.setIfInBounds_toArray, List.set_cons_zero, List.set_cons_succ, i64_w, i32_w]
    rfl
  refine take_ (i := 3) (N := some 13) (v := ?_) (a' := ?_) #[true, true, false, true, false, false, false, false, false, false, false, false] rfl rfl (by kernel_rfl) (fun _ _ _ h => h) (Or.inl ⟨by rfl, ?_⟩) hHeld ?_ ?_
  rotate_left
  · rintro w' ⟨s0, s1, s2, s3, s4, s5, s6, s7, s8⟩
    go_simp
    with_reducible rfl
  rotate_left
  · simp only [Act.put, List.setIfInBounds_toArray, List.set_cons_zero, List.set_cons_succ, i64_w, i32_w]
    rfl
  refine take_ (i := 4) (N := some 14) (v := ?_) (a' := ?_) #[true, true, false, true, true, false, false, false, false, false, false, false] rfl rfl (by kernel_rfl) (fun _ _ _ h => h) (Or.inl ⟨by rfl, ?_⟩) hHeld ?_ ?_
  rotate_left
  · rintro w' ⟨s0, s1, s2, s3, s4, s5, s6, s7, s8⟩
    go_simp
    with_reducible rfl
  rotate_left
  · simp only [Act.put, List.setIfInBounds_toArray, List.set_cons_zero, List.set_cons_succ, i64_w, i32_w]
    rfl
  refine take_ (i := 6) (N := some 16) (v := ?_) (a' := ?_) #[true, true, false, true, true, false, true, false, false, false, false, false] rfl rfl (by kernel_rfl) (fun _ _ _ h => h) (Or.inl ⟨by rfl, ?_⟩) hHeld ?_ ?_
  rotate_left
  · rintro w' ⟨s0, s1, s2, s3, s4, s5, s6, s7, s8⟩
    go_simp
    with_reducible rfl
  rotate_left
  · simp only [Act.put, List.setIfInBounds_toArray, List.set_cons_zero, List.set_cons_succ, i64_w, i32_w]
    rfl
  refine take_ (i := 7) (N := some 17) (v := ?_) (a' := ?_) #[true, true, false, true, true, false, true, true, false, false, false, false] rfl rfl (by kernel_rfl) (fun _ _ _ h => h) (Or.inl ⟨by rfl, ?_⟩) hHeld ?_ ?_
  rotate_left
  · rintro w' ⟨s0, s1, s2, s3, s4, s5, s6, s7, s8⟩
    go_simp
    with_reducible rfl
  rotate_left
  · simp only [Act.put, List.setIfInBounds_toArray, List.set_cons_zero, List.set_cons_succ, i64_w, i32_w]
    rfl
  refine one_ (i := 2) (N := some 12) #[true, true, true, true, true, false, true, true, false, false, false, false] rfl rfl (by kernel_rfl) (by decide) (fun K hK => ?_)
  refine goes_ Tryd.func12 (by kernel_rfl) rfl #[.agg #[.int .i64 ka, .int .i64 na, .string sa], .agg #[.int .i64 kb, .int .i64 nb, .string sb]] (by rfl) rfl rfl (by first | (simp only [List.map_toArray, List.map_cons, List.map_nil]; rfl) | simp only [List.map_toArray, List.map_cons, List.map_nil] | rfl) ?_
  refine ((HV1.out).call (F := [HP.obj g5 23 [.int .i64 kc, .int .i64 nc, .string sc], HP.obj g4 23 [.int .i64 kb, .int .i64 nb, .string sb], HP.obj g3 23 [.int .i64 ka, .int .i64 na, .string sa]]) HS.drew (fun _ _ _ _ => trivial)).mono ?_
  rintro e_ w5 ⟨rfl, HS_⟩
  refine ⟨_, rfl, ?_⟩
  clear HS
  have HS : St w S w5 [HP.obj g5 23 [.int .i64 kc, .int .i64 nc, .string sc], HP.obj g4 23 [.int .i64 kb, .int .i64 nb, .string sb], HP.obj g3 23 [.int .i64 ka, .int .i64 na, .string sa]] := HS_
  clear HS_
  refine hK.out _ _ ⟨HS.cell 0, HS.cell 1, HS.cell 2, (HS.mv 1).cell 0, (HS.mv 1).cell 1, (HS.mv 1).cell 2, (HS.mv 2).cell 0, (HS.mv 2).cell 1, (HS.mv 2).cell 2⟩ (fun hHeld => ?_)
  clear hK K
  refine norm_ (a' := ?_) ?_ ?_
  rotate_left
  · show Act.put _ (some 12) _ = _
    simp only [Act.put, List.setIfInBounds_toArray, List.set_cons_zero, List.set_cons_succ, i64_w, i32_w]
    rfl
  refine one_ (i := 5) (N := some 15) #[true, true, true, true, true, true, true, true, false, false, false, false] rfl rfl (by kernel_rfl) (by decide) (fun K hK => ?_)
  refine goes_ Tryd.func12 (by kernel_rfl) rfl #[.agg #[.int .i64 kb, .int .i64 nb, .string sb], .agg #[.int .i64 kc, .int .i64 nc, .string sc]] (by rfl) rfl rfl (by first | (simp only [List.map_toArray, List.map_cons, List.map_nil]; rfl) | simp only [List.map_toArray, List.map_cons, List.map_nil] | rfl) ?_
  refine ((HV2.out).call (F := [HP.obj g5 23 [.int .i64 kc, .int .i64 nc, .string sc], HP.obj g4 23 [.int .i64 kb, .int .i64 nb, .string sb], HP.obj g3 23 [.int .i64 ka, .int .i64 na, .string sa]]) HS (fun _ _ _ _ => trivial)).mono ?_
  rintro e_ w6 ⟨rfl, HS_⟩
  refine ⟨_, rfl, ?_⟩
  clear HS
  have HS : St w S w6 [HP.obj g5 23 [.int .i64 kc, .int .i64 nc, .string sc], HP.obj g4 23 [.int .i64 kb, .int .i64 nb, .string sb], HP.obj g3 23 [.int .i64 ka, .int .i64 na, .string sa]] := HS_
  clear HS_
  refine hK.out _ _ ⟨HS.cell 0, HS.cell 1, HS.cell 2, (HS.mv 1).cell 0, (HS.mv 1).cell 1, (HS.mv 1).cell 2, (HS.mv 2).cell 0, (HS.mv 2).cell 1, (HS.mv 2).cell 2⟩ (fun hHeld => ?_)
  clear hK K
  refine norm_ (a' := ?_) ?_ ?_
  rotate_left
  · show Act.put _ (some 15) _ = _
    simp only [Act.put, List.setIfInBounds_toArray, List.set_cons_zero, List.set_cons_succ, i64_w, i32_w]
    rfl
  refine one_ (i := 8) (N := some 18) #[true, true, true, true, true, true, true, true, true, false, false, false] rfl rfl (by kernel_rfl) (by decide) (fun K hK => ?_)
  refine goes_ Tryd.func12 (by kernel_rfl) rfl #[.agg #[.int .i64 ka, .int .i64 na, .string sa], .agg #[.int .i64 kc, .int .i64 nc, .string sc]] (by rfl) rfl rfl (by first | (simp only [List.map_toArray, List.map_cons, List.map_nil]; rfl) | simp only [List.map_toArray, List.map_cons, List.map_nil] | rfl) ?_
  refine ((HV3.out).call (F := [HP.obj g5 23 [.int .i64 kc, .int .i64 nc, .string sc], HP.obj g4 23 [.int .i64 kb, .int .i64 nb, .string sb], HP.obj g3 23 [.int .i64 ka, .int .i64 na, .string sa]]) HS (fun _ _ _ _ => trivial)).mono ?_
  rintro e_ w7 ⟨rfl, HS_⟩
  refine ⟨_, rfl, ?_⟩
  clear HS
  have HS : St w S w7 [HP.obj g5 23 [.int .i64 kc, .int .i64 nc, .string sc], HP.obj g4 23 [.int .i64 kb, .int .i64 nb, .string sb], HP.obj g3 23 [.int .i64 ka, .int .i64 na, .string sa]] := HS_
  clear HS_
  refine hK.out _ _ ⟨HS.cell 0, HS.cell 1, HS.cell 2, (HS.mv 1).cell 0, (HS.mv 1).cell 1, (HS.mv 1).cell 2, (HS.mv 2).cell 0, (HS.mv 2).cell 1, (HS.mv 2).cell 2⟩ (fun hHeld => ?_)
  clear hK K
  refine norm_ (a' := ?_) ?_ ?_
  rotate_left
  · show Act.put _ (some 18) _ = _
    simp only [Act.put, List.setIfInBounds_toArray, List.set_cons_zero, List.set_cons_succ, i64_w, i32_w]
    rfl
  refine pure_ (i := 9) (N := some 7) (v := ?_) (a' := ?_) #[true, true, true, true, true, true, true, true, true, true, false, false] rfl rfl (by kernel_rfl) (fun _ _ _ h => h) (Or.inl ⟨by rfl, ?_⟩) ?_ ?_
  rotate_left
  · intro w'
    go_simp
    with_reducible rfl
  rotate_left
  · simp only [Act.put, List.setIfInBounds_toArray, List.set_cons_zero, List.set_cons_succ, i64_w, i32_w]
    rfl
  refine pure_ (i := 10) (N := some 8) (v := ?_) (a' := ?_) #[true, true, true, true, true, true, true, true, true, true, true, false] rfl rfl (by kernel_rfl) (fun _ _ _ h => h) (Or.inl ⟨by rfl, ?_⟩) ?_ ?_
  rotate_left
  · intro w'
    go_simp
    with_reducible rfl
  rotate_left
  · simp only [Act.put, List.setIfInBounds_toArray, List.set_cons_zero, List.set_cons_succ, i64_w, i32_w]
    rfl
  refine pure_ (i := 11) (N := some 9) (v := ?_) (a' := ?_) #[true, true, true, true, true, true, true, true, true, true, true, true] rfl rfl (by kernel_rfl) (fun _ _ _ h => h) (Or.inl ⟨by rfl, ?_⟩) ?_ ?_
  rotate_left
  · intro w'
    go_simp
    with_reducible rfl
  rotate_left
  · simp only [Act.put, List.setIfInBounds_toArray, List.set_cons_zero, List.set_cons_succ, i64_w, i32_w]
    rfl
  refine done_ (by kernel_rfl) ?_
  clear hHeld
  have r0 := HS.cell 0
  have r1 := HS.cell 1
  have r2 := HS.cell 2
  have q0 := (HS.mv 1).cell 0
  have q1 := (HS.mv 1).cell 1
  have q2 := (HS.mv 1).cell 2
  have p0 := (HS.mv 2).cell 0
  have p1 := (HS.mv 2).cell 1
  have p2 := (HS.mv 2).cell 2
  go_wp2_with fail
  refine (awake_fun.call (F := [HP.obj g5 23 [.int .i64 kc, .int .i64 nc, .string sc], HP.obj g4 23 [.int .i64 kb, .int .i64 nb, .string sb], HP.obj g3 23 [.int .i64 ka, .int .i64 na, .string sa]]) HS (fun w' _ e _ => HR.out w' e)).mono ?_
  rintro e_ w8 ⟨rfl, HS_⟩
  clear HS r0 r1 r2 q0 q1 q2 p0 p1 p2
  have HS : St w S w8 [HP.obj g5 23 [.int .i64 kc, .int .i64 nc, .string sc], HP.obj g4 23 [.int .i64 kb, .int .i64 nb, .string sb], HP.obj g3 23 [.int .i64 ka, .int .i64 na, .string sa]] := HS_
  clear HS_
  have r0 := HS.cell 0
  have r1 := HS.cell 1
  have r2 := HS.cell 2
  have q0 := (HS.mv 1).cell 0
  have q1 := (HS.mv 1).cell 1
  have q2 := (HS.mv 1).cell 2
  have p0 := (HS.mv 2).cell 0
  have p1 := (HS.mv 2).cell 1
  have p2 := (HS.mv 2).cell 2
  go_wp2_with fail
  refine (HV4.out.call (F := [HP.obj g5 23 [.int .i64 kc, .int .i64 nc, .string sc], HP.obj g4 23 [.int .i64 kb, .int .i64 nb, .string sb], HP.obj g3 23 [.int .i64 ka, .int .i64 na, .string sa]]) HS (fun _ _ _ _ => trivial)).mono ?_
  rintro e_ w9 ⟨rfl, HS_⟩
  clear HS r0 r1 r2 q0 q1 q2 p0 p1 p2
  have HS : St w S w9 [HP.obj g5 23 [.int .i64 kc, .int .i64 nc, .string sc], HP.obj g4 23 [.int .i64 kb, .int .i64 nb, .string sb], HP.obj g3 23 [.int .i64 ka, .int .i64 na, .string sa]] := HS_
  clear HS_
  have r0 := HS.cell 0
  have r1 := HS.cell 1
  have r2 := HS.cell 2
  have q0 := (HS.mv 1).cell 0
  have q1 := (HS.mv 1).cell 1
  have q2 := (HS.mv 1).cell 2
  have p0 := (HS.mv 2).cell 0
  have p1 := (HS.mv 2).cell 1
  have p2 := (HS.mv 2).cell 2
  go_wp2_with fail
  all_goals first
    | (exfalso; exact HNE.out ⟨by assumption, by assumption, Str.ext _ _ (by assumption)⟩)
    | (go_ret; exact ⟨rfl, ((HS.out 0).out 0).out 0⟩)
    | (go_ret; exact ⟨by simp, ((HS.out 0).out 0).out 0⟩)
set_option maxHeartbeats 16000000 in
set_option maxRecDepth 40000 in
theorem order_4 (ka na : Int) (sa : ByteArray) (kb nb : Int) (sb : ByteArray) (kc nc : Int) (sc : ByteArray) (hab : cmpV ka na sa kb nb sb = (-1)) (hbc : cmpV kb nb sb kc nc sc = 0) (hac : cmpV ka na sa kc nc sc = (-1)) (hba : cmpV kb nb sb ka na sa = 1) : FunV Tryd.prog 8 #[.agg #[.int .i64 ka, .int .i64 na, .string sa], .agg #[.int .i64 kb, .int .i64 nb, .string sb], .agg #[.int .i64 kc, .int .i64 nc, .string sc]] Vars [] (.bool true) [] := by
  intro w S hS hR
  have HS := St.start hS
  have HR := Aside0.mk hR
  clear hS hR
  have huV := Tryd.underlying23
  have HNE := Aside0.mk (show ¬ (ka = kb ∧ na = nb ∧ sa = sb) from fun h => by have := (cmpV_zero ka na sa kb nb sb).2 h; omega)
  have hv1 := valcmp_fun ka na sa kb nb sb
  have hv2 := valcmp_fun kb nb sb kc nc sc
  have hv3 := valcmp_fun ka na sa kc nc sc
  have hv4 := valcmp_fun kb nb sb ka na sa
  change FunV _ _ _ _ _ (.int .i64 (cmpV ka na sa kb nb sb)) _ at hv1
  change FunV _ _ _ _ _ (.int .i64 (cmpV kb nb sb kc nc sc)) _ at hv2
  change FunV _ _ _ _ _ (.int .i64 (cmpV ka na sa kc nc sc)) _ at hv3
  change FunV _ _ _ _ _ (.int .i64 (cmpV kb nb sb ka na sa)) _ at hv4
  rw [hab] at hv1
  rw [hbc] at hv2
  rw [hac] at hv3
  rw [hba] at hv4
  have HV1 := Aside0.mk hv1
  have HV2 := Aside0.mk hv2
  have HV3 := Aside0.mk hv3
  have HV4 := Aside0.mk hv4
  clear hv1 hv2 hv3 hv4 hab hbc hac hba
  go_enter Tryd.func8, Tryd.ntmps8
  go_wp2_with (first
    | ((with_reducible refine gate_dst (N := 3) rfl ?_); refine ev_box ?hg (N := 3) ?hd (cs := [.int .i64 ka, .int .i64 na, .string sa]) (t := 23) HS ?hr ?_; (case hd => rfl); (case hg => rfl); (case hr => first | (go_simp; done) | (go_simp; rfl)); intro g3 w1 HS_ hg_; clear HS; have HS := HS_; clear HS_)
    | ((with_reducible refine gate_dst (N := 4) rfl ?_); refine ev_box ?hg (N := 4) ?hd (cs := [.int .i64 kb, .int .i64 nb, .string sb]) (t := 23) HS ?hr ?_; (case hd => rfl); (case hg => rfl); (case hr => first | (go_simp; done) | (go_simp; rfl)); intro g4 w2 HS_ hg_; clear HS; have HS := HS_; clear HS_)
    | ((with_reducible refine gate_dst (N := 5) rfl ?_); refine ev_box ?hg (N := 5) ?hd (cs := [.int .i64 kc, .int .i64 nc, .string sc]) (t := 23) HS ?hr ?_; (case hd => rfl); (case hg => rfl); (case hr => first | (go_simp; done) | (go_simp; rfl)); intro g5 w3 HS_ hg_; clear HS; have HS := HS_; clear HS_))
  refine start_ (n := 12) (S := fun w' => w'.cell? ⟨g5, 0, none⟩ = some (.int .i64 kc) ∧ w'.cell? ⟨g5, 1, none⟩ = some (.int .i64 nc) ∧ w'.cell? ⟨g5, 2, none⟩ = some (.string sc) ∧ w'.cell? ⟨g4, 0, none⟩ = some (.int .i64 kb) ∧ w'.cell? ⟨g4, 1, none⟩ = some (.int .i64 nb) ∧ w'.cell? ⟨g4, 2, none⟩ = some (.string sb) ∧ w'.cell? ⟨g3, 0, none⟩ = some (.int .i64 ka) ∧ w'.cell? ⟨g3, 1, none⟩ = some (.int .i64 na) ∧ w'.cell? ⟨g3, 2, none⟩ = some (.string sa)) (ds := []) #[false, false, false, false, false, false, false, false, false, false, false, false] (by kernel_rfl) rfl rfl ⟨HS.drew.cell 0, HS.drew.cell 1, HS.drew.cell 2, (HS.drew.mv 1).cell 0, (HS.drew.mv 1).cell 1, (HS.drew.mv 1).cell 2, (HS.drew.mv 2).cell 0, (HS.drew.mv 2).cell 1, (HS.drew.mv 2).cell 2⟩ (fun hHeld => ?_)
  refine take_ (i := 0) (N := some 10) (v := ?_) (a' := ?_) #[true, false, false, false, false, false, false, false, false, false, false, false] rfl rfl (by kernel_rfl) (fun _ _ _ h => h) (Or.inl ⟨by rfl, ?_⟩) hHeld ?_ ?_
  rotate_left
  · rintro w' ⟨s0, s1, s2, s3, s4, s5, s6, s7, s8⟩
    go_simp
    with_reducible rfl
  rotate_left
  · simp only [Act.put, List.setIfInBounds_toArray, List.set_cons_zero, List.set_cons_succ, i64_w, i32_w]
    rfl
  refine take_ (i := 1) (N := some 11) (v := ?_) (a' := ?_) #[true, true, false, false, false, false, false, false, false, false, false, false] rfl rfl (by kernel_rfl) (fun _ _ _ h => h) (Or.inl ⟨by rfl, ?_⟩) hHeld ?_ ?_
  rotate_left
  · rintro w' ⟨s0, s1, s2, s3, s4, s5, s6, s7, s8⟩
    go_simp
    with_reducible rfl
  rotate_left
  · simp only [Act.put, List.setIfInBounds_toArray, List.set_cons_zero, List.set_cons_succ, i64_w, i32_w]
    rfl
  refine take_ (i := 3) (N := some 13) (v := ?_) (a' := ?_) #[true, true, false, true, false, false, false, false, false, false, false, false] rfl rfl (by kernel_rfl) (fun _ _ _ h => h) (Or.inl ⟨by rfl, ?_⟩) hHeld ?_ ?_
  rotate_left
  · rintro w' ⟨s0, s1, s2, s3, s4, s5, s6, s7, s8⟩
    go_simp
    with_reducible rfl
  rotate_left
  · simp only [Act.put, List.setIfInBounds_toArray, List.set_cons_zero, List.set_cons_succ, i64_w, i32_w]
    rfl
  refine take_ (i := 4) (N := some 14) (v := ?_) (a' := ?_) #[true, true, false, true, true, false, false, false, false, false, false, false] rfl rfl (by kernel_rfl) (fun _ _ _ h => h) (Or.inl ⟨by rfl, ?_⟩) hHeld ?_ ?_
  rotate_left
  · rintro w' ⟨s0, s1, s2, s3, s4, s5, s6, s7, s8⟩
    go_simp
    with_reducible rfl
  rotate_left
  · simp only [Act.put, List.setIfInBounds_toArray, List.set_cons_zero, List.set_cons_succ, i64_w, i32_w]
    rfl
  refine take_ (i := 6) (N := some 16) (v := ?_) (a' := ?_) #[true, true, false, true, true, false, true, false, false, false, false, false] rfl rfl (by kernel_rfl) (fun _ _ _ h => h) (Or.inl ⟨by rfl, ?_⟩) hHeld ?_ ?_
  rotate_left
  · rintro w' ⟨s0, s1, s2, s3, s4, s5, s6, s7, s8⟩
    go_simp
    with_reducible rfl
  rotate_left
  · simp only [Act.put, List.setIfInBounds_toArray, List.set_cons_zero, List.set_cons_succ, i64_w, i32_w]
    rfl
  refine take_ (i := 7) (N := some 17) (v := ?_) (a' := ?_) #[true, true, false, true, true, false, true, true, false, false, false, false] rfl rfl (by kernel_rfl) (fun _ _ _ h => h) (Or.inl ⟨by rfl, ?_⟩) hHeld ?_ ?_
  rotate_left
  · rintro w' ⟨s0, s1, s2, s3, s4, s5, s6, s7, s8⟩
    go_simp
    with_reducible rfl
  rotate_left
  · simp only [Act.put, List.setIfInBounds_toArray, List.set_cons_zero, List.set_cons_succ, i64_w, i32_w]
    rfl
  refine one_ (i := 2) (N := some 12) #[true, true, true, true, true, false, true, true, false, false, false, false] rfl rfl (by kernel_rfl) (by decide) (fun K hK => ?_)
  refine goes_ Tryd.func12 (by kernel_rfl) rfl #[.agg #[.int .i64 ka, .int .i64 na, .string sa], .agg #[.int .i64 kb, .int .i64 nb, .string sb]] (by rfl) rfl rfl (by first | (simp only [List.map_toArray, List.map_cons, List.map_nil]; rfl) | simp only [List.map_toArray, List.map_cons, List.map_nil] | rfl) ?_
  refine ((HV1.out).call (F := [HP.obj g5 23 [.int .i64 kc, .int .i64 nc, .string sc], HP.obj g4 23 [.int .i64 kb, .int .i64 nb, .string sb], HP.obj g3 23 [.int .i64 ka, .int .i64 na, .string sa]]) HS.drew (fun _ _ _ _ => trivial)).mono ?_
  rintro e_ w5 ⟨rfl, HS_⟩
  refine ⟨_, rfl, ?_⟩
  clear HS
  have HS : St w S w5 [HP.obj g5 23 [.int .i64 kc, .int .i64 nc, .string sc], HP.obj g4 23 [.int .i64 kb, .int .i64 nb, .string sb], HP.obj g3 23 [.int .i64 ka, .int .i64 na, .string sa]] := HS_
  clear HS_
  refine hK.out _ _ ⟨HS.cell 0, HS.cell 1, HS.cell 2, (HS.mv 1).cell 0, (HS.mv 1).cell 1, (HS.mv 1).cell 2, (HS.mv 2).cell 0, (HS.mv 2).cell 1, (HS.mv 2).cell 2⟩ (fun hHeld => ?_)
  clear hK K
  refine norm_ (a' := ?_) ?_ ?_
  rotate_left
  · show Act.put _ (some 12) _ = _
    simp only [Act.put, List.setIfInBounds_toArray, List.set_cons_zero, List.set_cons_succ, i64_w, i32_w]
    rfl
  refine one_ (i := 5) (N := some 15) #[true, true, true, true, true, true, true, true, false, false, false, false] rfl rfl (by kernel_rfl) (by decide) (fun K hK => ?_)
  refine goes_ Tryd.func12 (by kernel_rfl) rfl #[.agg #[.int .i64 kb, .int .i64 nb, .string sb], .agg #[.int .i64 kc, .int .i64 nc, .string sc]] (by rfl) rfl rfl (by first | (simp only [List.map_toArray, List.map_cons, List.map_nil]; rfl) | simp only [List.map_toArray, List.map_cons, List.map_nil] | rfl) ?_
  refine ((HV2.out).call (F := [HP.obj g5 23 [.int .i64 kc, .int .i64 nc, .string sc], HP.obj g4 23 [.int .i64 kb, .int .i64 nb, .string sb], HP.obj g3 23 [.int .i64 ka, .int .i64 na, .string sa]]) HS (fun _ _ _ _ => trivial)).mono ?_
  rintro e_ w6 ⟨rfl, HS_⟩
  refine ⟨_, rfl, ?_⟩
  clear HS
  have HS : St w S w6 [HP.obj g5 23 [.int .i64 kc, .int .i64 nc, .string sc], HP.obj g4 23 [.int .i64 kb, .int .i64 nb, .string sb], HP.obj g3 23 [.int .i64 ka, .int .i64 na, .string sa]] := HS_
  clear HS_
  refine hK.out _ _ ⟨HS.cell 0, HS.cell 1, HS.cell 2, (HS.mv 1).cell 0, (HS.mv 1).cell 1, (HS.mv 1).cell 2, (HS.mv 2).cell 0, (HS.mv 2).cell 1, (HS.mv 2).cell 2⟩ (fun hHeld => ?_)
  clear hK K
  refine norm_ (a' := ?_) ?_ ?_
  rotate_left
  · show Act.put _ (some 15) _ = _
    simp only [Act.put, List.setIfInBounds_toArray, List.set_cons_zero, List.set_cons_succ, i64_w, i32_w]
    rfl
  refine one_ (i := 8) (N := some 18) #[true, true, true, true, true, true, true, true, true, false, false, false] rfl rfl (by kernel_rfl) (by decide) (fun K hK => ?_)
  refine goes_ Tryd.func12 (by kernel_rfl) rfl #[.agg #[.int .i64 ka, .int .i64 na, .string sa], .agg #[.int .i64 kc, .int .i64 nc, .string sc]] (by rfl) rfl rfl (by first | (simp only [List.map_toArray, List.map_cons, List.map_nil]; rfl) | simp only [List.map_toArray, List.map_cons, List.map_nil] | rfl) ?_
  refine ((HV3.out).call (F := [HP.obj g5 23 [.int .i64 kc, .int .i64 nc, .string sc], HP.obj g4 23 [.int .i64 kb, .int .i64 nb, .string sb], HP.obj g3 23 [.int .i64 ka, .int .i64 na, .string sa]]) HS (fun _ _ _ _ => trivial)).mono ?_
  rintro e_ w7 ⟨rfl, HS_⟩
  refine ⟨_, rfl, ?_⟩
  clear HS
  have HS : St w S w7 [HP.obj g5 23 [.int .i64 kc, .int .i64 nc, .string sc], HP.obj g4 23 [.int .i64 kb, .int .i64 nb, .string sb], HP.obj g3 23 [.int .i64 ka, .int .i64 na, .string sa]] := HS_
  clear HS_
  refine hK.out _ _ ⟨HS.cell 0, HS.cell 1, HS.cell 2, (HS.mv 1).cell 0, (HS.mv 1).cell 1, (HS.mv 1).cell 2, (HS.mv 2).cell 0, (HS.mv 2).cell 1, (HS.mv 2).cell 2⟩ (fun hHeld => ?_)
  clear hK K
  refine norm_ (a' := ?_) ?_ ?_
  rotate_left
  · show Act.put _ (some 18) _ = _
    simp only [Act.put, List.setIfInBounds_toArray, List.set_cons_zero, List.set_cons_succ, i64_w, i32_w]
    rfl
  refine pure_ (i := 9) (N := some 7) (v := ?_) (a' := ?_) #[true, true, true, true, true, true, true, true, true, true, false, false] rfl rfl (by kernel_rfl) (fun _ _ _ h => h) (Or.inl ⟨by rfl, ?_⟩) ?_ ?_
  rotate_left
  · intro w'
    go_simp
    with_reducible rfl
  rotate_left
  · simp only [Act.put, List.setIfInBounds_toArray, List.set_cons_zero, List.set_cons_succ, i64_w, i32_w]
    rfl
  refine pure_ (i := 10) (N := some 8) (v := ?_) (a' := ?_) #[true, true, true, true, true, true, true, true, true, true, true, false] rfl rfl (by kernel_rfl) (fun _ _ _ h => h) (Or.inl ⟨by rfl, ?_⟩) ?_ ?_
  rotate_left
  · intro w'
    go_simp
    with_reducible rfl
  rotate_left
  · simp only [Act.put, List.setIfInBounds_toArray, List.set_cons_zero, List.set_cons_succ, i64_w, i32_w]
    rfl
  refine pure_ (i := 11) (N := some 9) (v := ?_) (a' := ?_) #[true, true, true, true, true, true, true, true, true, true, true, true] rfl rfl (by kernel_rfl) (fun _ _ _ h => h) (Or.inl ⟨by rfl, ?_⟩) ?_ ?_
  rotate_left
  · intro w'
    go_simp
    with_reducible rfl
  rotate_left
  · simp only [Act.put, List.setIfInBounds_toArray, List.set_cons_zero, List.set_cons_succ, i64_w, i32_w]
    rfl
  refine done_ (by kernel_rfl) ?_
  clear hHeld
  have r0 := HS.cell 0
  have r1 := HS.cell 1
  have r2 := HS.cell 2
  have q0 := (HS.mv 1).cell 0
  have q1 := (HS.mv 1).cell 1
  have q2 := (HS.mv 1).cell 2
  have p0 := (HS.mv 2).cell 0
  have p1 := (HS.mv 2).cell 1
  have p2 := (HS.mv 2).cell 2
  go_wp2_with fail
  refine (awake_fun.call (F := [HP.obj g5 23 [.int .i64 kc, .int .i64 nc, .string sc], HP.obj g4 23 [.int .i64 kb, .int .i64 nb, .string sb], HP.obj g3 23 [.int .i64 ka, .int .i64 na, .string sa]]) HS (fun w' _ e _ => HR.out w' e)).mono ?_
  rintro e_ w8 ⟨rfl, HS_⟩
  clear HS r0 r1 r2 q0 q1 q2 p0 p1 p2
  have HS : St w S w8 [HP.obj g5 23 [.int .i64 kc, .int .i64 nc, .string sc], HP.obj g4 23 [.int .i64 kb, .int .i64 nb, .string sb], HP.obj g3 23 [.int .i64 ka, .int .i64 na, .string sa]] := HS_
  clear HS_
  have r0 := HS.cell 0
  have r1 := HS.cell 1
  have r2 := HS.cell 2
  have q0 := (HS.mv 1).cell 0
  have q1 := (HS.mv 1).cell 1
  have q2 := (HS.mv 1).cell 2
  have p0 := (HS.mv 2).cell 0
  have p1 := (HS.mv 2).cell 1
  have p2 := (HS.mv 2).cell 2
  go_wp2_with fail
  refine (HV4.out.call (F := [HP.obj g5 23 [.int .i64 kc, .int .i64 nc, .string sc], HP.obj g4 23 [.int .i64 kb, .int .i64 nb, .string sb], HP.obj g3 23 [.int .i64 ka, .int .i64 na, .string sa]]) HS (fun _ _ _ _ => trivial)).mono ?_
  rintro e_ w9 ⟨rfl, HS_⟩
  clear HS r0 r1 r2 q0 q1 q2 p0 p1 p2
  have HS : St w S w9 [HP.obj g5 23 [.int .i64 kc, .int .i64 nc, .string sc], HP.obj g4 23 [.int .i64 kb, .int .i64 nb, .string sb], HP.obj g3 23 [.int .i64 ka, .int .i64 na, .string sa]] := HS_
  clear HS_
  have r0 := HS.cell 0
  have r1 := HS.cell 1
  have r2 := HS.cell 2
  have q0 := (HS.mv 1).cell 0
  have q1 := (HS.mv 1).cell 1
  have q2 := (HS.mv 1).cell 2
  have p0 := (HS.mv 2).cell 0
  have p1 := (HS.mv 2).cell 1
  have p2 := (HS.mv 2).cell 2
  go_wp2_with fail
  all_goals first
    | (exfalso; exact HNE.out ⟨by assumption, by assumption, Str.ext _ _ (by assumption)⟩)
    | (go_ret; exact ⟨rfl, ((HS.out 0).out 0).out 0⟩)
    | (go_ret; exact ⟨by simp, ((HS.out 0).out 0).out 0⟩)
set_option maxHeartbeats 16000000 in
set_option maxRecDepth 40000 in
theorem order_5 (ka na : Int) (sa : ByteArray) (kb nb : Int) (sb : ByteArray) (kc nc : Int) (sc : ByteArray) (hab : cmpV ka na sa kb nb sb = (-1)) (hbc : cmpV kb nb sb kc nc sc = (-1)) (hac : cmpV ka na sa kc nc sc = (-1)) (hba : cmpV kb nb sb ka na sa = 1) : FunV Tryd.prog 8 #[.agg #[.int .i64 ka, .int .i64 na, .string sa], .agg #[.int .i64 kb, .int .i64 nb, .string sb], .agg #[.int .i64 kc, .int .i64 nc, .string sc]] Vars [] (.bool true) [] := by
  intro w S hS hR
  have HS := St.start hS
  have HR := Aside0.mk hR
  clear hS hR
  have huV := Tryd.underlying23
  have HNE := Aside0.mk (show ¬ (ka = kb ∧ na = nb ∧ sa = sb) from fun h => by have := (cmpV_zero ka na sa kb nb sb).2 h; omega)
  have hv1 := valcmp_fun ka na sa kb nb sb
  have hv2 := valcmp_fun kb nb sb kc nc sc
  have hv3 := valcmp_fun ka na sa kc nc sc
  have hv4 := valcmp_fun kb nb sb ka na sa
  change FunV _ _ _ _ _ (.int .i64 (cmpV ka na sa kb nb sb)) _ at hv1
  change FunV _ _ _ _ _ (.int .i64 (cmpV kb nb sb kc nc sc)) _ at hv2
  change FunV _ _ _ _ _ (.int .i64 (cmpV ka na sa kc nc sc)) _ at hv3
  change FunV _ _ _ _ _ (.int .i64 (cmpV kb nb sb ka na sa)) _ at hv4
  rw [hab] at hv1
  rw [hbc] at hv2
  rw [hac] at hv3
  rw [hba] at hv4
  have HV1 := Aside0.mk hv1
  have HV2 := Aside0.mk hv2
  have HV3 := Aside0.mk hv3
  have HV4 := Aside0.mk hv4
  clear hv1 hv2 hv3 hv4 hab hbc hac hba
  go_enter Tryd.func8, Tryd.ntmps8
  go_wp2_with (first
    | ((with_reducible refine gate_dst (N := 3) rfl ?_); refine ev_box ?hg (N := 3) ?hd (cs := [.int .i64 ka, .int .i64 na, .string sa]) (t := 23) HS ?hr ?_; (case hd => rfl); (case hg => rfl); (case hr => first | (go_simp; done) | (go_simp; rfl)); intro g3 w1 HS_ hg_; clear HS; have HS := HS_; clear HS_)
    | ((with_reducible refine gate_dst (N := 4) rfl ?_); refine ev_box ?hg (N := 4) ?hd (cs := [.int .i64 kb, .int .i64 nb, .string sb]) (t := 23) HS ?hr ?_; (case hd => rfl); (case hg => rfl); (case hr => first | (go_simp; done) | (go_simp; rfl)); intro g4 w2 HS_ hg_; clear HS; have HS := HS_; clear HS_)
    | ((with_reducible refine gate_dst (N := 5) rfl ?_); refine ev_box ?hg (N := 5) ?hd (cs := [.int .i64 kc, .int .i64 nc, .string sc]) (t := 23) HS ?hr ?_; (case hd => rfl); (case hg => rfl); (case hr => first | (go_simp; done) | (go_simp; rfl)); intro g5 w3 HS_ hg_; clear HS; have HS := HS_; clear HS_))
  refine start_ (n := 12) (S := fun w' => w'.cell? ⟨g5, 0, none⟩ = some (.int .i64 kc) ∧ w'.cell? ⟨g5, 1, none⟩ = some (.int .i64 nc) ∧ w'.cell? ⟨g5, 2, none⟩ = some (.string sc) ∧ w'.cell? ⟨g4, 0, none⟩ = some (.int .i64 kb) ∧ w'.cell? ⟨g4, 1, none⟩ = some (.int .i64 nb) ∧ w'.cell? ⟨g4, 2, none⟩ = some (.string sb) ∧ w'.cell? ⟨g3, 0, none⟩ = some (.int .i64 ka) ∧ w'.cell? ⟨g3, 1, none⟩ = some (.int .i64 na) ∧ w'.cell? ⟨g3, 2, none⟩ = some (.string sa)) (ds := []) #[false, false, false, false, false, false, false, false, false, false, false, false] (by kernel_rfl) rfl rfl ⟨HS.drew.cell 0, HS.drew.cell 1, HS.drew.cell 2, (HS.drew.mv 1).cell 0, (HS.drew.mv 1).cell 1, (HS.drew.mv 1).cell 2, (HS.drew.mv 2).cell 0, (HS.drew.mv 2).cell 1, (HS.drew.mv 2).cell 2⟩ (fun hHeld => ?_)
  refine take_ (i := 0) (N := some 10) (v := ?_) (a' := ?_) #[true, false, false, false, false, false, false, false, false, false, false, false] rfl rfl (by kernel_rfl) (fun _ _ _ h => h) (Or.inl ⟨by rfl, ?_⟩) hHeld ?_ ?_
  rotate_left
  · rintro w' ⟨s0, s1, s2, s3, s4, s5, s6, s7, s8⟩
    go_simp
    with_reducible rfl
  rotate_left
  · simp only [Act.put, List.setIfInBounds_toArray, List.set_cons_zero, List.set_cons_succ, i64_w, i32_w]
    rfl
  refine take_ (i := 1) (N := some 11) (v := ?_) (a' := ?_) #[true, true, false, false, false, false, false, false, false, false, false, false] rfl rfl (by kernel_rfl) (fun _ _ _ h => h) (Or.inl ⟨by rfl, ?_⟩) hHeld ?_ ?_
  rotate_left
  · rintro w' ⟨s0, s1, s2, s3, s4, s5, s6, s7, s8⟩
    go_simp
    with_reducible rfl
  rotate_left
  · simp only [Act.put, List.setIfInBounds_toArray, List.set_cons_zero, List.set_cons_succ, i64_w, i32_w]
    rfl
  refine take_ (i := 3) (N := some 13) (v := ?_) (a' := ?_) #[true, true, false, true, false, false, false, false, false, false, false, false] rfl rfl (by kernel_rfl) (fun _ _ _ h => h) (Or.inl ⟨by rfl, ?_⟩) hHeld ?_ ?_
  rotate_left
  · rintro w' ⟨s0, s1, s2, s3, s4, s5, s6, s7, s8⟩
    go_simp
    with_reducible rfl
  rotate_left
  · simp only [Act.put, List.setIfInBounds_toArray, List.set_cons_zero, List.set_cons_succ, i64_w, i32_w]
    rfl
  refine take_ (i := 4) (N := some 14) (v := ?_) (a' := ?_) #[true, true, false, true, true, false, false, false, false, false, false, false] rfl rfl (by kernel_rfl) (fun _ _ _ h => h) (Or.inl ⟨by rfl, ?_⟩) hHeld ?_ ?_
  rotate_left
  · rintro w' ⟨s0, s1, s2, s3, s4, s5, s6, s7, s8⟩
    go_simp
    with_reducible rfl
  rotate_left
  · simp only [Act.put, List.setIfInBounds_toArray, List.set_cons_zero, List.set_cons_succ, i64_w, i32_w]
    rfl
  refine take_ (i := 6) (N := some 16) (v := ?_) (a' := ?_) #[true, true, false, true, true, false, true, false, false, false, false, false] rfl rfl (by kernel_rfl) (fun _ _ _ h => h) (Or.inl ⟨by rfl, ?_⟩) hHeld ?_ ?_
  rotate_left
  · rintro w' ⟨s0, s1, s2, s3, s4, s5, s6, s7, s8⟩
    go_simp
    with_reducible rfl
  rotate_left
  · simp only [Act.put, List.setIfInBounds_toArray, List.set_cons_zero, List.set_cons_succ, i64_w, i32_w]
    rfl
  refine take_ (i := 7) (N := some 17) (v := ?_) (a' := ?_) #[true, true, false, true, true, false, true, true, false, false, false, false] rfl rfl (by kernel_rfl) (fun _ _ _ h => h) (Or.inl ⟨by rfl, ?_⟩) hHeld ?_ ?_
  rotate_left
  · rintro w' ⟨s0, s1, s2, s3, s4, s5, s6, s7, s8⟩
    go_simp
    with_reducible rfl
  rotate_left
  · simp only [Act.put, List.setIfInBounds_toArray, List.set_cons_zero, List.set_cons_succ, i64_w, i32_w]
    rfl
  refine one_ (i := 2) (N := some 12) #[true, true, true, true, true, false, true, true, false, false, false, false] rfl rfl (by kernel_rfl) (by decide) (fun K hK => ?_)
  refine goes_ Tryd.func12 (by kernel_rfl) rfl #[.agg #[.int .i64 ka, .int .i64 na, .string sa], .agg #[.int .i64 kb, .int .i64 nb, .string sb]] (by rfl) rfl rfl (by first | (simp only [List.map_toArray, List.map_cons, List.map_nil]; rfl) | simp only [List.map_toArray, List.map_cons, List.map_nil] | rfl) ?_
  refine ((HV1.out).call (F := [HP.obj g5 23 [.int .i64 kc, .int .i64 nc, .string sc], HP.obj g4 23 [.int .i64 kb, .int .i64 nb, .string sb], HP.obj g3 23 [.int .i64 ka, .int .i64 na, .string sa]]) HS.drew (fun _ _ _ _ => trivial)).mono ?_
  rintro e_ w5 ⟨rfl, HS_⟩
  refine ⟨_, rfl, ?_⟩
  clear HS
  have HS : St w S w5 [HP.obj g5 23 [.int .i64 kc, .int .i64 nc, .string sc], HP.obj g4 23 [.int .i64 kb, .int .i64 nb, .string sb], HP.obj g3 23 [.int .i64 ka, .int .i64 na, .string sa]] := HS_
  clear HS_
  refine hK.out _ _ ⟨HS.cell 0, HS.cell 1, HS.cell 2, (HS.mv 1).cell 0, (HS.mv 1).cell 1, (HS.mv 1).cell 2, (HS.mv 2).cell 0, (HS.mv 2).cell 1, (HS.mv 2).cell 2⟩ (fun hHeld => ?_)
  clear hK K
  refine norm_ (a' := ?_) ?_ ?_
  rotate_left
  · show Act.put _ (some 12) _ = _
    simp only [Act.put, List.setIfInBounds_toArray, List.set_cons_zero, List.set_cons_succ, i64_w, i32_w]
    rfl
  refine one_ (i := 5) (N := some 15) #[true, true, true, true, true, true, true, true, false, false, false, false] rfl rfl (by kernel_rfl) (by decide) (fun K hK => ?_)
  refine goes_ Tryd.func12 (by kernel_rfl) rfl #[.agg #[.int .i64 kb, .int .i64 nb, .string sb], .agg #[.int .i64 kc, .int .i64 nc, .string sc]] (by rfl) rfl rfl (by first | (simp only [List.map_toArray, List.map_cons, List.map_nil]; rfl) | simp only [List.map_toArray, List.map_cons, List.map_nil] | rfl) ?_
  refine ((HV2.out).call (F := [HP.obj g5 23 [.int .i64 kc, .int .i64 nc, .string sc], HP.obj g4 23 [.int .i64 kb, .int .i64 nb, .string sb], HP.obj g3 23 [.int .i64 ka, .int .i64 na, .string sa]]) HS (fun _ _ _ _ => trivial)).mono ?_
  rintro e_ w6 ⟨rfl, HS_⟩
  refine ⟨_, rfl, ?_⟩
  clear HS
  have HS : St w S w6 [HP.obj g5 23 [.int .i64 kc, .int .i64 nc, .string sc], HP.obj g4 23 [.int .i64 kb, .int .i64 nb, .string sb], HP.obj g3 23 [.int .i64 ka, .int .i64 na, .string sa]] := HS_
  clear HS_
  refine hK.out _ _ ⟨HS.cell 0, HS.cell 1, HS.cell 2, (HS.mv 1).cell 0, (HS.mv 1).cell 1, (HS.mv 1).cell 2, (HS.mv 2).cell 0, (HS.mv 2).cell 1, (HS.mv 2).cell 2⟩ (fun hHeld => ?_)
  clear hK K
  refine norm_ (a' := ?_) ?_ ?_
  rotate_left
  · show Act.put _ (some 15) _ = _
    simp only [Act.put, List.setIfInBounds_toArray, List.set_cons_zero, List.set_cons_succ, i64_w, i32_w]
    rfl
  refine one_ (i := 8) (N := some 18) #[true, true, true, true, true, true, true, true, true, false, false, false] rfl rfl (by kernel_rfl) (by decide) (fun K hK => ?_)
  refine goes_ Tryd.func12 (by kernel_rfl) rfl #[.agg #[.int .i64 ka, .int .i64 na, .string sa], .agg #[.int .i64 kc, .int .i64 nc, .string sc]] (by rfl) rfl rfl (by first | (simp only [List.map_toArray, List.map_cons, List.map_nil]; rfl) | simp only [List.map_toArray, List.map_cons, List.map_nil] | rfl) ?_
  refine ((HV3.out).call (F := [HP.obj g5 23 [.int .i64 kc, .int .i64 nc, .string sc], HP.obj g4 23 [.int .i64 kb, .int .i64 nb, .string sb], HP.obj g3 23 [.int .i64 ka, .int .i64 na, .string sa]]) HS (fun _ _ _ _ => trivial)).mono ?_
  rintro e_ w7 ⟨rfl, HS_⟩
  refine ⟨_, rfl, ?_⟩
  clear HS
  have HS : St w S w7 [HP.obj g5 23 [.int .i64 kc, .int .i64 nc, .string sc], HP.obj g4 23 [.int .i64 kb, .int .i64 nb, .string sb], HP.obj g3 23 [.int .i64 ka, .int .i64 na, .string sa]] := HS_
  clear HS_
  refine hK.out _ _ ⟨HS.cell 0, HS.cell 1, HS.cell 2, (HS.mv 1).cell 0, (HS.mv 1).cell 1, (HS.mv 1).cell 2, (HS.mv 2).cell 0, (HS.mv 2).cell 1, (HS.mv 2).cell 2⟩ (fun hHeld => ?_)
  clear hK K
  refine norm_ (a' := ?_) ?_ ?_
  rotate_left
  · show Act.put _ (some 18) _ = _
    simp only [Act.put, List.setIfInBounds_toArray, List.set_cons_zero, List.set_cons_succ, i64_w, i32_w]
    rfl
  refine pure_ (i := 9) (N := some 7) (v := ?_) (a' := ?_) #[true, true, true, true, true, true, true, true, true, true, false, false] rfl rfl (by kernel_rfl) (fun _ _ _ h => h) (Or.inl ⟨by rfl, ?_⟩) ?_ ?_
  rotate_left
  · intro w'
    go_simp
    with_reducible rfl
  rotate_left
  · simp only [Act.put, List.setIfInBounds_toArray, List.set_cons_zero, List.set_cons_succ, i64_w, i32_w]
    rfl
  refine pure_ (i := 10) (N := some 8) (v := ?_) (a' := ?_) #[true, true, true, true, true, true, true, true, true, true, true, false] rfl rfl (by kernel_rfl) (fun _ _ _ h => h) (Or.inl ⟨by rfl, ?_⟩) ?_ ?_
  rotate_left
  · intro w'
    go_simp
    with_reducible rfl
  rotate_left
  · simp only [Act.put, List.setIfInBounds_toArray, List.set_cons_zero, List.set_cons_succ, i64_w, i32_w]
    rfl
  refine pure_ (i := 11) (N := some 9) (v := ?_) (a' := ?_) #[true, true, true, true, true, true, true, true, true, true, true, true] rfl rfl (by kernel_rfl) (fun _ _ _ h => h) (Or.inl ⟨by rfl, ?_⟩) ?_ ?_
  rotate_left
  · intro w'
    go_simp
    with_reducible rfl
  rotate_left
  · simp only [Act.put, List.setIfInBounds_toArray, List.set_cons_zero, List.set_cons_succ, i64_w, i32_w]
    rfl
  refine done_ (by kernel_rfl) ?_
  clear hHeld
  have r0 := HS.cell 0
  have r1 := HS.cell 1
  have r2 := HS.cell 2
  have q0 := (HS.mv 1).cell 0
  have q1 := (HS.mv 1).cell 1
  have q2 := (HS.mv 1).cell 2
  have p0 := (HS.mv 2).cell 0
  have p1 := (HS.mv 2).cell 1
  have p2 := (HS.mv 2).cell 2
  go_wp2_with fail
  refine (awake_fun.call (F := [HP.obj g5 23 [.int .i64 kc, .int .i64 nc, .string sc], HP.obj g4 23 [.int .i64 kb, .int .i64 nb, .string sb], HP.obj g3 23 [.int .i64 ka, .int .i64 na, .string sa]]) HS (fun w' _ e _ => HR.out w' e)).mono ?_
  rintro e_ w8 ⟨rfl, HS_⟩
  clear HS r0 r1 r2 q0 q1 q2 p0 p1 p2
  have HS : St w S w8 [HP.obj g5 23 [.int .i64 kc, .int .i64 nc, .string sc], HP.obj g4 23 [.int .i64 kb, .int .i64 nb, .string sb], HP.obj g3 23 [.int .i64 ka, .int .i64 na, .string sa]] := HS_
  clear HS_
  have r0 := HS.cell 0
  have r1 := HS.cell 1
  have r2 := HS.cell 2
  have q0 := (HS.mv 1).cell 0
  have q1 := (HS.mv 1).cell 1
  have q2 := (HS.mv 1).cell 2
  have p0 := (HS.mv 2).cell 0
  have p1 := (HS.mv 2).cell 1
  have p2 := (HS.mv 2).cell 2
  go_wp2_with fail
  refine (HV4.out.call (F := [HP.obj g5 23 [.int .i64 kc, .int .i64 nc, .string sc], HP.obj g4 23 [.int .i64 kb, .int .i64 nb, .string sb], HP.obj g3 23 [.int .i64 ka, .int .i64 na, .string sa]]) HS (fun _ _ _ _ => trivial)).mono ?_
  rintro e_ w9 ⟨rfl, HS_⟩
  clear HS r0 r1 r2 q0 q1 q2 p0 p1 p2
  have HS : St w S w9 [HP.obj g5 23 [.int .i64 kc, .int .i64 nc, .string sc], HP.obj g4 23 [.int .i64 kb, .int .i64 nb, .string sb], HP.obj g3 23 [.int .i64 ka, .int .i64 na, .string sa]] := HS_
  clear HS_
  have r0 := HS.cell 0
  have r1 := HS.cell 1
  have r2 := HS.cell 2
  have q0 := (HS.mv 1).cell 0
  have q1 := (HS.mv 1).cell 1
  have q2 := (HS.mv 1).cell 2
  have p0 := (HS.mv 2).cell 0
  have p1 := (HS.mv 2).cell 1
  have p2 := (HS.mv 2).cell 2
  go_wp2_with fail
  all_goals first
    | (exfalso; exact HNE.out ⟨by assumption, by assumption, Str.ext _ _ (by assumption)⟩)
    | (go_ret; exact ⟨rfl, ((HS.out 0).out 0).out 0⟩)
    | (go_ret; exact ⟨by simp, ((HS.out 0).out 0).out 0⟩)
set_option maxHeartbeats 16000000 in
set_option maxRecDepth 40000 in
theorem order_6 (ka na : Int) (sa : ByteArray) (kc nc : Int) (sc : ByteArray) (hab : cmpV ka na sa ka na sa = 0) (hbc : cmpV ka na sa kc nc sc = 1) : FunV Tryd.prog 8 #[.agg #[.int .i64 ka, .int .i64 na, .string sa], .agg #[.int .i64 ka, .int .i64 na, .string sa], .agg #[.int .i64 kc, .int .i64 nc, .string sc]] Vars [] (.bool true) [] := by
  intro w S hS hR
  have HS := St.start hS
  have HR := Aside0.mk hR
  clear hS hR
  have huV := Tryd.underlying23
  have hv1 := valcmp_fun ka na sa ka na sa
  have hv2 := valcmp_fun ka na sa kc nc sc
  have hv3 := valcmp_fun ka na sa kc nc sc
  have hv4 := valcmp_fun ka na sa ka na sa
  change FunV _ _ _ _ _ (.int .i64 (cmpV ka na sa ka na sa)) _ at hv1
  change FunV _ _ _ _ _ (.int .i64 (cmpV ka na sa kc nc sc)) _ at hv2
  change FunV _ _ _ _ _ (.int .i64 (cmpV ka na sa kc nc sc)) _ at hv3
  change FunV _ _ _ _ _ (.int .i64 (cmpV ka na sa ka na sa)) _ at hv4
  rw [hab] at hv1 hv4
  rw [hbc] at hv2 hv3
  have HV1 := Aside0.mk hv1
  have HV2 := Aside0.mk hv2
  have HV3 := Aside0.mk hv3
  have HV4 := Aside0.mk hv4
  clear hv1 hv2 hv3 hv4 hab hbc
  go_enter Tryd.func8, Tryd.ntmps8
  go_wp2_with (first
    | ((with_reducible refine gate_dst (N := 3) rfl ?_); refine ev_box ?hg (N := 3) ?hd (cs := [.int .i64 ka, .int .i64 na, .string sa]) (t := 23) HS ?hr ?_; (case hd => rfl); (case hg => rfl); (case hr => first | (go_simp; done) | (go_simp; rfl)); intro g3 w1 HS_ hg_; clear HS; have HS := HS_; clear HS_)
    | ((with_reducible refine gate_dst (N := 4) rfl ?_); refine ev_box ?hg (N := 4) ?hd (cs := [.int .i64 ka, .int .i64 na, .string sa]) (t := 23) HS ?hr ?_; (case hd => rfl); (case hg => rfl); (case hr => first | (go_simp; done) | (go_simp; rfl)); intro g4 w2 HS_ hg_; clear HS; have HS := HS_; clear HS_)
    | ((with_reducible refine gate_dst (N := 5) rfl ?_); refine ev_box ?hg (N := 5) ?hd (cs := [.int .i64 kc, .int .i64 nc, .string sc]) (t := 23) HS ?hr ?_; (case hd => rfl); (case hg => rfl); (case hr => first | (go_simp; done) | (go_simp; rfl)); intro g5 w3 HS_ hg_; clear HS; have HS := HS_; clear HS_))
  refine start_ (n := 12) (S := fun w' => w'.cell? ⟨g5, 0, none⟩ = some (.int .i64 kc) ∧ w'.cell? ⟨g5, 1, none⟩ = some (.int .i64 nc) ∧ w'.cell? ⟨g5, 2, none⟩ = some (.string sc) ∧ w'.cell? ⟨g4, 0, none⟩ = some (.int .i64 ka) ∧ w'.cell? ⟨g4, 1, none⟩ = some (.int .i64 na) ∧ w'.cell? ⟨g4, 2, none⟩ = some (.string sa) ∧ w'.cell? ⟨g3, 0, none⟩ = some (.int .i64 ka) ∧ w'.cell? ⟨g3, 1, none⟩ = some (.int .i64 na) ∧ w'.cell? ⟨g3, 2, none⟩ = some (.string sa)) (ds := []) #[false, false, false, false, false, false, false, false, false, false, false, false] (by kernel_rfl) rfl rfl ⟨HS.drew.cell 0, HS.drew.cell 1, HS.drew.cell 2, (HS.drew.mv 1).cell 0, (HS.drew.mv 1).cell 1, (HS.drew.mv 1).cell 2, (HS.drew.mv 2).cell 0, (HS.drew.mv 2).cell 1, (HS.drew.mv 2).cell 2⟩ (fun hHeld => ?_)
  refine take_ (i := 0) (N := some 10) (v := ?_) (a' := ?_) #[true, false, false, false, false, false, false, false, false, false, false, false] rfl rfl (by kernel_rfl) (fun _ _ _ h => h) (Or.inl ⟨by rfl, ?_⟩) hHeld ?_ ?_
  rotate_left
  · rintro w' ⟨s0, s1, s2, s3, s4, s5, s6, s7, s8⟩
    go_simp
    with_reducible rfl
  rotate_left
  · simp only [Act.put, List.setIfInBounds_toArray, List.set_cons_zero, List.set_cons_succ, i64_w, i32_w]
    rfl
  refine take_ (i := 1) (N := some 11) (v := ?_) (a' := ?_) #[true, true, false, false, false, false, false, false, false, false, false, false] rfl rfl (by kernel_rfl) (fun _ _ _ h => h) (Or.inl ⟨by rfl, ?_⟩) hHeld ?_ ?_
  rotate_left
  · rintro w' ⟨s0, s1, s2, s3, s4, s5, s6, s7, s8⟩
    go_simp
    with_reducible rfl
  rotate_left
  · simp only [Act.put, List.setIfInBounds_toArray, List.set_cons_zero, List.set_cons_succ, i64_w, i32_w]
    rfl
  refine take_ (i := 3) (N := some 13) (v := ?_) (a' := ?_) #[true, true, false, true, false, false, false, false, false, false, false, false] rfl rfl (by kernel_rfl) (fun _ _ _ h => h) (Or.inl ⟨by rfl, ?_⟩) hHeld ?_ ?_
  rotate_left
  · rintro w' ⟨s0, s1, s2, s3, s4, s5, s6, s7, s8⟩
    go_simp
    with_reducible rfl
  rotate_left
  · simp only [Act.put, List.setIfInBounds_toArray, List.set_cons_zero, List.set_cons_succ, i64_w, i32_w]
    rfl
  refine take_ (i := 4) (N := some 14) (v := ?_) (a' := ?_) #[true, true, false, true, true, false, false, false, false, false, false, false] rfl rfl (by kernel_rfl) (fun _ _ _ h => h) (Or.inl ⟨by rfl, ?_⟩) hHeld ?_ ?_
  rotate_left
  · rintro w' ⟨s0, s1, s2, s3, s4, s5, s6, s7, s8⟩
    go_simp
    with_reducible rfl
  rotate_left
  · simp only [Act.put, List.setIfInBounds_toArray, List.set_cons_zero, List.set_cons_succ, i64_w, i32_w]
    rfl
  refine take_ (i := 6) (N := some 16) (v := ?_) (a' := ?_) #[true, true, false, true, true, false, true, false, false, false, false, false] rfl rfl (by kernel_rfl) (fun _ _ _ h => h) (Or.inl ⟨by rfl, ?_⟩) hHeld ?_ ?_
  rotate_left
  · rintro w' ⟨s0, s1, s2, s3, s4, s5, s6, s7, s8⟩
    go_simp
    with_reducible rfl
  rotate_left
  · simp only [Act.put, List.setIfInBounds_toArray, List.set_cons_zero, List.set_cons_succ, i64_w, i32_w]
    rfl
  refine take_ (i := 7) (N := some 17) (v := ?_) (a' := ?_) #[true, true, false, true, true, false, true, true, false, false, false, false] rfl rfl (by kernel_rfl) (fun _ _ _ h => h) (Or.inl ⟨by rfl, ?_⟩) hHeld ?_ ?_
  rotate_left
  · rintro w' ⟨s0, s1, s2, s3, s4, s5, s6, s7, s8⟩
    go_simp
    with_reducible rfl
  rotate_left
  · simp only [Act.put, List.setIfInBounds_toArray, List.set_cons_zero, List.set_cons_succ, i64_w, i32_w]
    rfl
  refine one_ (i := 2) (N := some 12) #[true, true, true, true, true, false, true, true, false, false, false, false] rfl rfl (by kernel_rfl) (by decide) (fun K hK => ?_)
  refine goes_ Tryd.func12 (by kernel_rfl) rfl #[.agg #[.int .i64 ka, .int .i64 na, .string sa], .agg #[.int .i64 ka, .int .i64 na, .string sa]] (by rfl) rfl rfl (by first | (simp only [List.map_toArray, List.map_cons, List.map_nil]; rfl) | simp only [List.map_toArray, List.map_cons, List.map_nil] | rfl) ?_
  refine ((HV1.out).call (F := [HP.obj g5 23 [.int .i64 kc, .int .i64 nc, .string sc], HP.obj g4 23 [.int .i64 ka, .int .i64 na, .string sa], HP.obj g3 23 [.int .i64 ka, .int .i64 na, .string sa]]) HS.drew (fun _ _ _ _ => trivial)).mono ?_
  rintro e_ w5 ⟨rfl, HS_⟩
  refine ⟨_, rfl, ?_⟩
  clear HS
  have HS : St w S w5 [HP.obj g5 23 [.int .i64 kc, .int .i64 nc, .string sc], HP.obj g4 23 [.int .i64 ka, .int .i64 na, .string sa], HP.obj g3 23 [.int .i64 ka, .int .i64 na, .string sa]] := HS_
  clear HS_
  refine hK.out _ _ ⟨HS.cell 0, HS.cell 1, HS.cell 2, (HS.mv 1).cell 0, (HS.mv 1).cell 1, (HS.mv 1).cell 2, (HS.mv 2).cell 0, (HS.mv 2).cell 1, (HS.mv 2).cell 2⟩ (fun hHeld => ?_)
  clear hK K
  refine norm_ (a' := ?_) ?_ ?_
  rotate_left
  · show Act.put _ (some 12) _ = _
    simp only [Act.put, List.setIfInBounds_toArray, List.set_cons_zero, List.set_cons_succ, i64_w, i32_w]
    rfl
  refine one_ (i := 5) (N := some 15) #[true, true, true, true, true, true, true, true, false, false, false, false] rfl rfl (by kernel_rfl) (by decide) (fun K hK => ?_)
  refine goes_ Tryd.func12 (by kernel_rfl) rfl #[.agg #[.int .i64 ka, .int .i64 na, .string sa], .agg #[.int .i64 kc, .int .i64 nc, .string sc]] (by rfl) rfl rfl (by first | (simp only [List.map_toArray, List.map_cons, List.map_nil]; rfl) | simp only [List.map_toArray, List.map_cons, List.map_nil] | rfl) ?_
  refine ((HV2.out).call (F := [HP.obj g5 23 [.int .i64 kc, .int .i64 nc, .string sc], HP.obj g4 23 [.int .i64 ka, .int .i64 na, .string sa], HP.obj g3 23 [.int .i64 ka, .int .i64 na, .string sa]]) HS (fun _ _ _ _ => trivial)).mono ?_
  rintro e_ w6 ⟨rfl, HS_⟩
  refine ⟨_, rfl, ?_⟩
  clear HS
  have HS : St w S w6 [HP.obj g5 23 [.int .i64 kc, .int .i64 nc, .string sc], HP.obj g4 23 [.int .i64 ka, .int .i64 na, .string sa], HP.obj g3 23 [.int .i64 ka, .int .i64 na, .string sa]] := HS_
  clear HS_
  refine hK.out _ _ ⟨HS.cell 0, HS.cell 1, HS.cell 2, (HS.mv 1).cell 0, (HS.mv 1).cell 1, (HS.mv 1).cell 2, (HS.mv 2).cell 0, (HS.mv 2).cell 1, (HS.mv 2).cell 2⟩ (fun hHeld => ?_)
  clear hK K
  refine norm_ (a' := ?_) ?_ ?_
  rotate_left
  · show Act.put _ (some 15) _ = _
    simp only [Act.put, List.setIfInBounds_toArray, List.set_cons_zero, List.set_cons_succ, i64_w, i32_w]
    rfl
  refine one_ (i := 8) (N := some 18) #[true, true, true, true, true, true, true, true, true, false, false, false] rfl rfl (by kernel_rfl) (by decide) (fun K hK => ?_)
  refine goes_ Tryd.func12 (by kernel_rfl) rfl #[.agg #[.int .i64 ka, .int .i64 na, .string sa], .agg #[.int .i64 kc, .int .i64 nc, .string sc]] (by rfl) rfl rfl (by first | (simp only [List.map_toArray, List.map_cons, List.map_nil]; rfl) | simp only [List.map_toArray, List.map_cons, List.map_nil] | rfl) ?_
  refine ((HV3.out).call (F := [HP.obj g5 23 [.int .i64 kc, .int .i64 nc, .string sc], HP.obj g4 23 [.int .i64 ka, .int .i64 na, .string sa], HP.obj g3 23 [.int .i64 ka, .int .i64 na, .string sa]]) HS (fun _ _ _ _ => trivial)).mono ?_
  rintro e_ w7 ⟨rfl, HS_⟩
  refine ⟨_, rfl, ?_⟩
  clear HS
  have HS : St w S w7 [HP.obj g5 23 [.int .i64 kc, .int .i64 nc, .string sc], HP.obj g4 23 [.int .i64 ka, .int .i64 na, .string sa], HP.obj g3 23 [.int .i64 ka, .int .i64 na, .string sa]] := HS_
  clear HS_
  refine hK.out _ _ ⟨HS.cell 0, HS.cell 1, HS.cell 2, (HS.mv 1).cell 0, (HS.mv 1).cell 1, (HS.mv 1).cell 2, (HS.mv 2).cell 0, (HS.mv 2).cell 1, (HS.mv 2).cell 2⟩ (fun hHeld => ?_)
  clear hK K
  refine norm_ (a' := ?_) ?_ ?_
  rotate_left
  · show Act.put _ (some 18) _ = _
    simp only [Act.put, List.setIfInBounds_toArray, List.set_cons_zero, List.set_cons_succ, i64_w, i32_w]
    rfl
  refine pure_ (i := 9) (N := some 7) (v := ?_) (a' := ?_) #[true, true, true, true, true, true, true, true, true, true, false, false] rfl rfl (by kernel_rfl) (fun _ _ _ h => h) (Or.inl ⟨by rfl, ?_⟩) ?_ ?_
  rotate_left
  · intro w'
    go_simp
    with_reducible rfl
  rotate_left
  · simp only [Act.put, List.setIfInBounds_toArray, List.set_cons_zero, List.set_cons_succ, i64_w, i32_w]
    rfl
  refine pure_ (i := 10) (N := some 8) (v := ?_) (a' := ?_) #[true, true, true, true, true, true, true, true, true, true, true, false] rfl rfl (by kernel_rfl) (fun _ _ _ h => h) (Or.inl ⟨by rfl, ?_⟩) ?_ ?_
  rotate_left
  · intro w'
    go_simp
    with_reducible rfl
  rotate_left
  · simp only [Act.put, List.setIfInBounds_toArray, List.set_cons_zero, List.set_cons_succ, i64_w, i32_w]
    rfl
  refine pure_ (i := 11) (N := some 9) (v := ?_) (a' := ?_) #[true, true, true, true, true, true, true, true, true, true, true, true] rfl rfl (by kernel_rfl) (fun _ _ _ h => h) (Or.inl ⟨by rfl, ?_⟩) ?_ ?_
  rotate_left
  · intro w'
    go_simp
    with_reducible rfl
  rotate_left
  · simp only [Act.put, List.setIfInBounds_toArray, List.set_cons_zero, List.set_cons_succ, i64_w, i32_w]
    rfl
  refine done_ (by kernel_rfl) ?_
  clear hHeld
  have r0 := HS.cell 0
  have r1 := HS.cell 1
  have r2 := HS.cell 2
  have q0 := (HS.mv 1).cell 0
  have q1 := (HS.mv 1).cell 1
  have q2 := (HS.mv 1).cell 2
  have p0 := (HS.mv 2).cell 0
  have p1 := (HS.mv 2).cell 1
  have p2 := (HS.mv 2).cell 2
  go_wp2_with fail
  refine (awake_fun.call (F := [HP.obj g5 23 [.int .i64 kc, .int .i64 nc, .string sc], HP.obj g4 23 [.int .i64 ka, .int .i64 na, .string sa], HP.obj g3 23 [.int .i64 ka, .int .i64 na, .string sa]]) HS (fun w' _ e _ => HR.out w' e)).mono ?_
  rintro e_ w8 ⟨rfl, HS_⟩
  clear HS r0 r1 r2 q0 q1 q2 p0 p1 p2
  have HS : St w S w8 [HP.obj g5 23 [.int .i64 kc, .int .i64 nc, .string sc], HP.obj g4 23 [.int .i64 ka, .int .i64 na, .string sa], HP.obj g3 23 [.int .i64 ka, .int .i64 na, .string sa]] := HS_
  clear HS_
  have r0 := HS.cell 0
  have r1 := HS.cell 1
  have r2 := HS.cell 2
  have q0 := (HS.mv 1).cell 0
  have q1 := (HS.mv 1).cell 1
  have q2 := (HS.mv 1).cell 2
  have p0 := (HS.mv 2).cell 0
  have p1 := (HS.mv 2).cell 1
  have p2 := (HS.mv 2).cell 2
  go_wp2_with fail
  refine (HV4.out.call (F := [HP.obj g5 23 [.int .i64 kc, .int .i64 nc, .string sc], HP.obj g4 23 [.int .i64 ka, .int .i64 na, .string sa], HP.obj g3 23 [.int .i64 ka, .int .i64 na, .string sa]]) HS (fun _ _ _ _ => trivial)).mono ?_
  rintro e_ w9 ⟨rfl, HS_⟩
  clear HS r0 r1 r2 q0 q1 q2 p0 p1 p2
  have HS : St w S w9 [HP.obj g5 23 [.int .i64 kc, .int .i64 nc, .string sc], HP.obj g4 23 [.int .i64 ka, .int .i64 na, .string sa], HP.obj g3 23 [.int .i64 ka, .int .i64 na, .string sa]] := HS_
  clear HS_
  have r0 := HS.cell 0
  have r1 := HS.cell 1
  have r2 := HS.cell 2
  have q0 := (HS.mv 1).cell 0
  have q1 := (HS.mv 1).cell 1
  have q2 := (HS.mv 1).cell 2
  have p0 := (HS.mv 2).cell 0
  have p1 := (HS.mv 2).cell 1
  have p2 := (HS.mv 2).cell 2
  go_wp2_with fail
  all_goals first
    | (go_ret; exact ⟨rfl, ((HS.out 0).out 0).out 0⟩)
    | (go_ret; exact ⟨by simp, ((HS.out 0).out 0).out 0⟩)
set_option maxHeartbeats 16000000 in
set_option maxRecDepth 40000 in
theorem order_7 (ka na : Int) (sa : ByteArray) (kc nc : Int) (sc : ByteArray) (hab : cmpV ka na sa ka na sa = 0) (hbc : cmpV ka na sa kc nc sc = 0) : FunV Tryd.prog 8 #[.agg #[.int .i64 ka, .int .i64 na, .string sa], .agg #[.int .i64 ka, .int .i64 na, .string sa], .agg #[.int .i64 kc, .int .i64 nc, .string sc]] Vars [] (.bool true) [] := by
  intro w S hS hR
  have HS := St.start hS
  have HR := Aside0.mk hR
  clear hS hR
  have huV := Tryd.underlying23
  have hv1 := valcmp_fun ka na sa ka na sa
  have hv2 := valcmp_fun ka na sa kc nc sc
  have hv3 := valcmp_fun ka na sa kc nc sc
  have hv4 := valcmp_fun ka na sa ka na sa
  change FunV _ _ _ _ _ (.int .i64 (cmpV ka na sa ka na sa)) _ at hv1
  change FunV _ _ _ _ _ (.int .i64 (cmpV ka na sa kc nc sc)) _ at hv2
  change FunV _ _ _ _ _ (.int .i64 (cmpV ka na sa kc nc sc)) _ at hv3
  change FunV _ _ _ _ _ (.int .i64 (cmpV ka na sa ka na sa)) _ at hv4
  rw [hab] at hv1 hv4
  rw [hbc] at hv2 hv3
  have HV1 := Aside0.mk hv1
  have HV2 := Aside0.mk hv2
  have HV3 := Aside0.mk hv3
  have HV4 := Aside0.mk hv4
  clear hv1 hv2 hv3 hv4 hab hbc
  go_enter Tryd.func8, Tryd.ntmps8
  go_wp2_with (first
    | ((with_reducible refine gate_dst (N := 3) rfl ?_); refine ev_box ?hg (N := 3) ?hd (cs := [.int .i64 ka, .int .i64 na, .string sa]) (t := 23) HS ?hr ?_; (case hd => rfl); (case hg => rfl); (case hr => first | (go_simp; done) | (go_simp; rfl)); intro g3 w1 HS_ hg_; clear HS; have HS := HS_; clear HS_)
    | ((with_reducible refine gate_dst (N := 4) rfl ?_); refine ev_box ?hg (N := 4) ?hd (cs := [.int .i64 ka, .int .i64 na, .string sa]) (t := 23) HS ?hr ?_; (case hd => rfl); (case hg => rfl); (case hr => first | (go_simp; done) | (go_simp; rfl)); intro g4 w2 HS_ hg_; clear HS; have HS := HS_; clear HS_)
    | ((with_reducible refine gate_dst (N := 5) rfl ?_); refine ev_box ?hg (N := 5) ?hd (cs := [.int .i64 kc, .int .i64 nc, .string sc]) (t := 23) HS ?hr ?_; (case hd => rfl); (case hg => rfl); (case hr => first | (go_simp; done) | (go_simp; rfl)); intro g5 w3 HS_ hg_; clear HS; have HS := HS_; clear HS_))
  refine start_ (n := 12) (S := fun w' => w'.cell? ⟨g5, 0, none⟩ = some (.int .i64 kc) ∧ w'.cell? ⟨g5, 1, none⟩ = some (.int .i64 nc) ∧ w'.cell? ⟨g5, 2, none⟩ = some (.string sc) ∧ w'.cell? ⟨g4, 0, none⟩ = some (.int .i64 ka) ∧ w'.cell? ⟨g4, 1, none⟩ = some (.int .i64 na) ∧ w'.cell? ⟨g4, 2, none⟩ = some (.string sa) ∧ w'.cell? ⟨g3, 0, none⟩ = some (.int .i64 ka) ∧ w'.cell? ⟨g3, 1, none⟩ = some (.int .i64 na) ∧ w'.cell? ⟨g3, 2, none⟩ = some (.string sa)) (ds := []) #[false, false, false, false, false, false, false, false, false, false, false, false] (by kernel_rfl) rfl rfl ⟨HS.drew.cell 0, HS.drew.cell 1, HS.drew.cell 2, (HS.drew.mv 1).cell 0, (HS.drew.mv 1).cell 1, (HS.drew.mv 1).cell 2, (HS.drew.mv 2).cell 0, (HS.drew.mv 2).cell 1, (HS.drew.mv 2).cell 2⟩ (fun hHeld => ?_)
  refine take_ (i := 0) (N := some 10) (v := ?_) (a' := ?_) #[true, false, false, false, false, false, false, false, false, false, false, false] rfl rfl (by kernel_rfl) (fun _ _ _ h => h) (Or.inl ⟨by rfl, ?_⟩) hHeld ?_ ?_
  rotate_left
  · rintro w' ⟨s0, s1, s2, s3, s4, s5, s6, s7, s8⟩
    go_simp
    with_reducible rfl
  rotate_left
  · simp only [Act.put, List.setIfInBounds_toArray, List.set_cons_zero, List.set_cons_succ, i64_w, i32_w]
    rfl
  refine take_ (i := 1) (N := some 11) (v := ?_) (a' := ?_) #[true, true, false, false, false, false, false, false, false, false, false, false] rfl rfl (by kernel_rfl) (fun _ _ _ h => h) (Or.inl ⟨by rfl, ?_⟩) hHeld ?_ ?_
  rotate_left
  · rintro w' ⟨s0, s1, s2, s3, s4, s5, s6, s7, s8⟩
    go_simp
    with_reducible rfl
  rotate_left
  · simp only [Act.put, List.setIfInBounds_toArray, List.set_cons_zero, List.set_cons_succ, i64_w, i32_w]
    rfl
  refine take_ (i := 3) (N := some 13) (v := ?_) (a' := ?_) #[true, true, false, true, false, false, false, false, false, false, false, false] rfl rfl (by kernel_rfl) (fun _ _ _ h => h) (Or.inl ⟨by rfl, ?_⟩) hHeld ?_ ?_
  rotate_left
  · rintro w' ⟨s0, s1, s2, s3, s4, s5, s6, s7, s8⟩
    go_simp
    with_reducible rfl
  rotate_left
  · simp only [Act.put, List.setIfInBounds_toArray, List.set_cons_zero, List.set_cons_succ, i64_w, i32_w]
    rfl
  refine take_ (i := 4) (N := some 14) (v := ?_) (a' := ?_) #[true, true, false, true, true, false, false, false, false, false, false, false] rfl rfl (by kernel_rfl) (fun _ _ _ h => h) (Or.inl ⟨by rfl, ?_⟩) hHeld ?_ ?_
  rotate_left
  · rintro w' ⟨s0, s1, s2, s3, s4, s5, s6, s7, s8⟩
    go_simp
    with_reducible rfl
  rotate_left
  · simp only [Act.put, List.setIfInBounds_toArray, List.set_cons_zero, List.set_cons_succ, i64_w, i32_w]
    rfl
  refine take_ (i := 6) (N := some 16) (v := ?_) (a' := ?_) #[true, true, false, true, true, false, true, false, false, false, false, false] rfl rfl (by kernel_rfl) (fun _ _ _ h => h) (Or.inl ⟨by rfl, ?_⟩) hHeld ?_ ?_
  rotate_left
  · rintro w' ⟨s0, s1, s2, s3, s4, s5, s6, s7, s8⟩
    go_simp
    with_reducible rfl
  rotate_left
  · simp only [Act.put, List.setIfInBounds_toArray, List.set_cons_zero, List.set_cons_succ, i64_w, i32_w]
    rfl
  refine take_ (i := 7) (N := some 17) (v := ?_) (a' := ?_) #[true, true, false, true, true, false, true, true, false, false, false, false] rfl rfl (by kernel_rfl) (fun _ _ _ h => h) (Or.inl ⟨by rfl, ?_⟩) hHeld ?_ ?_
  rotate_left
  · rintro w' ⟨s0, s1, s2, s3, s4, s5, s6, s7, s8⟩
    go_simp
    with_reducible rfl
  rotate_left
  · simp only [Act.put, List.setIfInBounds_toArray, List.set_cons_zero, List.set_cons_succ, i64_w, i32_w]
    rfl
  refine one_ (i := 2) (N := some 12) #[true, true, true, true, true, false, true, true, false, false, false, false] rfl rfl (by kernel_rfl) (by decide) (fun K hK => ?_)
  refine goes_ Tryd.func12 (by kernel_rfl) rfl #[.agg #[.int .i64 ka, .int .i64 na, .string sa], .agg #[.int .i64 ka, .int .i64 na, .string sa]] (by rfl) rfl rfl (by first | (simp only [List.map_toArray, List.map_cons, List.map_nil]; rfl) | simp only [List.map_toArray, List.map_cons, List.map_nil] | rfl) ?_
  refine ((HV1.out).call (F := [HP.obj g5 23 [.int .i64 kc, .int .i64 nc, .string sc], HP.obj g4 23 [.int .i64 ka, .int .i64 na, .string sa], HP.obj g3 23 [.int .i64 ka, .int .i64 na, .string sa]]) HS.drew (fun _ _ _ _ => trivial)).mono ?_
  rintro e_ w5 ⟨rfl, HS_⟩
  refine ⟨_, rfl, ?_⟩
  clear HS
  have HS : St w S w5 [HP.obj g5 23 [.int .i64 kc, .int .i64 nc, .string sc], HP.obj g4 23 [.int .i64 ka, .int .i64 na, .string sa], HP.obj g3 23 [.int .i64 ka, .int .i64 na, .string sa]] := HS_
  clear HS_
  refine hK.out _ _ ⟨HS.cell 0, HS.cell 1, HS.cell 2, (HS.mv 1).cell 0, (HS.mv 1).cell 1, (HS.mv 1).cell 2, (HS.mv 2).cell 0, (HS.mv 2).cell 1, (HS.mv 2).cell 2⟩ (fun hHeld => ?_)
  clear hK K
  refine norm_ (a' := ?_) ?_ ?_
  rotate_left
  · show Act.put _ (some 12) _ = _
    simp only [Act.put, List.setIfInBounds_toArray, List.set_cons_zero, List.set_cons_succ, i64_w, i32_w]
    rfl
  refine one_ (i := 5) (N := some 15) #[true, true, true, true, true, true, true, true, false, false, false, false] rfl rfl (by kernel_rfl) (by decide) (fun K hK => ?_)
  refine goes_ Tryd.func12 (by kernel_rfl) rfl #[.agg #[.int .i64 ka, .int .i64 na, .string sa], .agg #[.int .i64 kc, .int .i64 nc, .string sc]] (by rfl) rfl rfl (by first | (simp only [List.map_toArray, List.map_cons, List.map_nil]; rfl) | simp only [List.map_toArray, List.map_cons, List.map_nil] | rfl) ?_
  refine ((HV2.out).call (F := [HP.obj g5 23 [.int .i64 kc, .int .i64 nc, .string sc], HP.obj g4 23 [.int .i64 ka, .int .i64 na, .string sa], HP.obj g3 23 [.int .i64 ka, .int .i64 na, .string sa]]) HS (fun _ _ _ _ => trivial)).mono ?_
  rintro e_ w6 ⟨rfl, HS_⟩
  refine ⟨_, rfl, ?_⟩
  clear HS
  have HS : St w S w6 [HP.obj g5 23 [.int .i64 kc, .int .i64 nc, .string sc], HP.obj g4 23 [.int .i64 ka, .int .i64 na, .string sa], HP.obj g3 23 [.int .i64 ka, .int .i64 na, .string sa]] := HS_
  clear HS_
  refine hK.out _ _ ⟨HS.cell 0, HS.cell 1, HS.cell 2, (HS.mv 1).cell 0, (HS.mv 1).cell 1, (HS.mv 1).cell 2, (HS.mv 2).cell 0, (HS.mv 2).cell 1, (HS.mv 2).cell 2⟩ (fun hHeld => ?_)
  clear hK K
  refine norm_ (a' := ?_) ?_ ?_
  rotate_left
  · show Act.put _ (some 15) _ = _
    simp only [Act.put, List.setIfInBounds_toArray, List.set_cons_zero, List.set_cons_succ, i64_w, i32_w]
    rfl
  refine one_ (i := 8) (N := some 18) #[true, true, true, true, true, true, true, true, true, false, false, false] rfl rfl (by kernel_rfl) (by decide) (fun K hK => ?_)
  refine goes_ Tryd.func12 (by kernel_rfl) rfl #[.agg #[.int .i64 ka, .int .i64 na, .string sa], .agg #[.int .i64 kc, .int .i64 nc, .string sc]] (by rfl) rfl rfl (by first | (simp only [List.map_toArray, List.map_cons, List.map_nil]; rfl) | simp only [List.map_toArray, List.map_cons, List.map_nil] | rfl) ?_
  refine ((HV3.out).call (F := [HP.obj g5 23 [.int .i64 kc, .int .i64 nc, .string sc], HP.obj g4 23 [.int .i64 ka, .int .i64 na, .string sa], HP.obj g3 23 [.int .i64 ka, .int .i64 na, .string sa]]) HS (fun _ _ _ _ => trivial)).mono ?_
  rintro e_ w7 ⟨rfl, HS_⟩
  refine ⟨_, rfl, ?_⟩
  clear HS
  have HS : St w S w7 [HP.obj g5 23 [.int .i64 kc, .int .i64 nc, .string sc], HP.obj g4 23 [.int .i64 ka, .int .i64 na, .string sa], HP.obj g3 23 [.int .i64 ka, .int .i64 na, .string sa]] := HS_
  clear HS_
  refine hK.out _ _ ⟨HS.cell 0, HS.cell 1, HS.cell 2, (HS.mv 1).cell 0, (HS.mv 1).cell 1, (HS.mv 1).cell 2, (HS.mv 2).cell 0, (HS.mv 2).cell 1, (HS.mv 2).cell 2⟩ (fun hHeld => ?_)
  clear hK K
  refine norm_ (a' := ?_) ?_ ?_
  rotate_left
  · show Act.put _ (some 18) _ = _
    simp only [Act.put, List.setIfInBounds_toArray, List.set_cons_zero, List.set_cons_succ, i64_w, i32_w]
    rfl
  refine pure_ (i := 9) (N := some 7) (v := ?_) (a' := ?_) #[true, true, true, true, true, true, true, true, true, true, false, false] rfl rfl (by kernel_rfl) (fun _ _ _ h => h) (Or.inl ⟨by rfl, ?_⟩) ?_ ?_
  rotate_left
  · intro w'
    go_simp
    with_reducible rfl
  rotate_left
  · simp only [Act.put, List.setIfInBounds_toArray, List.set_cons_zero, List.set_cons_succ, i64_w, i32_w]
    rfl
  refine pure_ (i := 10) (N := some 8) (v := ?_) (a' := ?_) #[true, true, true, true, true, true, true, true, true, true, true, false] rfl rfl (by kernel_rfl) (fun _ _ _ h => h) (Or.inl ⟨by rfl, ?_⟩) ?_ ?_
  rotate_left
  · intro w'
    go_simp
    with_reducible rfl
  rotate_left
  · simp only [Act.put, List.setIfInBounds_toArray, List.set_cons_zero, List.set_cons_succ, i64_w, i32_w]
    rfl
  refine pure_ (i := 11) (N := some 9) (v := ?_) (a' := ?_) #[true, true, true, true, true, true, true, true, true, true, true, true] rfl rfl (by kernel_rfl) (fun _ _ _ h => h) (Or.inl ⟨by rfl, ?_⟩) ?_ ?_
  rotate_left
  · intro w'
    go_simp
    with_reducible rfl
  rotate_left
  · simp only [Act.put, List.setIfInBounds_toArray, List.set_cons_zero, List.set_cons_succ, i64_w, i32_w]
    rfl
  refine done_ (by kernel_rfl) ?_
  clear hHeld
  have r0 := HS.cell 0
  have r1 := HS.cell 1
  have r2 := HS.cell 2
  have q0 := (HS.mv 1).cell 0
  have q1 := (HS.mv 1).cell 1
  have q2 := (HS.mv 1).cell 2
  have p0 := (HS.mv 2).cell 0
  have p1 := (HS.mv 2).cell 1
  have p2 := (HS.mv 2).cell 2
  go_wp2_with fail
  refine (awake_fun.call (F := [HP.obj g5 23 [.int .i64 kc, .int .i64 nc, .string sc], HP.obj g4 23 [.int .i64 ka, .int .i64 na, .string sa], HP.obj g3 23 [.int .i64 ka, .int .i64 na, .string sa]]) HS (fun w' _ e _ => HR.out w' e)).mono ?_
  rintro e_ w8 ⟨rfl, HS_⟩
  clear HS r0 r1 r2 q0 q1 q2 p0 p1 p2
  have HS : St w S w8 [HP.obj g5 23 [.int .i64 kc, .int .i64 nc, .string sc], HP.obj g4 23 [.int .i64 ka, .int .i64 na, .string sa], HP.obj g3 23 [.int .i64 ka, .int .i64 na, .string sa]] := HS_
  clear HS_
  have r0 := HS.cell 0
  have r1 := HS.cell 1
  have r2 := HS.cell 2
  have q0 := (HS.mv 1).cell 0
  have q1 := (HS.mv 1).cell 1
  have q2 := (HS.mv 1).cell 2
  have p0 := (HS.mv 2).cell 0
  have p1 := (HS.mv 2).cell 1
  have p2 := (HS.mv 2).cell 2
  go_wp2_with fail
  refine (HV4.out.call (F := [HP.obj g5 23 [.int .i64 kc, .int .i64 nc, .string sc], HP.obj g4 23 [.int .i64 ka, .int .i64 na, .string sa], HP.obj g3 23 [.int .i64 ka, .int .i64 na, .string sa]]) HS (fun _ _ _ _ => trivial)).mono ?_
  rintro e_ w9 ⟨rfl, HS_⟩
  clear HS r0 r1 r2 q0 q1 q2 p0 p1 p2
  have HS : St w S w9 [HP.obj g5 23 [.int .i64 kc, .int .i64 nc, .string sc], HP.obj g4 23 [.int .i64 ka, .int .i64 na, .string sa], HP.obj g3 23 [.int .i64 ka, .int .i64 na, .string sa]] := HS_
  clear HS_
  have r0 := HS.cell 0
  have r1 := HS.cell 1
  have r2 := HS.cell 2
  have q0 := (HS.mv 1).cell 0
  have q1 := (HS.mv 1).cell 1
  have q2 := (HS.mv 1).cell 2
  have p0 := (HS.mv 2).cell 0
  have p1 := (HS.mv 2).cell 1
  have p2 := (HS.mv 2).cell 2
  go_wp2_with fail
  all_goals first
    | (go_ret; exact ⟨rfl, ((HS.out 0).out 0).out 0⟩)
    | (go_ret; exact ⟨by simp, ((HS.out 0).out 0).out 0⟩)
set_option maxHeartbeats 16000000 in
set_option maxRecDepth 40000 in
theorem order_8 (ka na : Int) (sa : ByteArray) (kc nc : Int) (sc : ByteArray) (hab : cmpV ka na sa ka na sa = 0) (hbc : cmpV ka na sa kc nc sc = (-1)) : FunV Tryd.prog 8 #[.agg #[.int .i64 ka, .int .i64 na, .string sa], .agg #[.int .i64 ka, .int .i64 na, .string sa], .agg #[.int .i64 kc, .int .i64 nc, .string sc]] Vars [] (.bool true) [] := by
  intro w S hS hR
  have HS := St.start hS
  have HR := Aside0.mk hR
  clear hS hR
  have huV := Tryd.underlying23
  have hv1 := valcmp_fun ka na sa ka na sa
  have hv2 := valcmp_fun ka na sa kc nc sc
  have hv3 := valcmp_fun ka na sa kc nc sc
  have hv4 := valcmp_fun ka na sa ka na sa
  change FunV _ _ _ _ _ (.int .i64 (cmpV ka na sa ka na sa)) _ at hv1
  change FunV _ _ _ _ _ (.int .i64 (cmpV ka na sa kc nc sc)) _ at hv2
  change FunV _ _ _ _ _ (.int .i64 (cmpV ka na sa kc nc sc)) _ at hv3
  change FunV _ _ _ _ _ (.int .i64 (cmpV ka na sa ka na sa)) _ at hv4
  rw [hab] at hv1 hv4
  rw [hbc] at hv2 hv3
  have HV1 := Aside0.mk hv1
  have HV2 := Aside0.mk hv2
  have HV3 := Aside0.mk hv3
  have HV4 := Aside0.mk hv4
  clear hv1 hv2 hv3 hv4 hab hbc
  go_enter Tryd.func8, Tryd.ntmps8
  go_wp2_with (first
    | ((with_reducible refine gate_dst (N := 3) rfl ?_); refine ev_box ?hg (N := 3) ?hd (cs := [.int .i64 ka, .int .i64 na, .string sa]) (t := 23) HS ?hr ?_; (case hd => rfl); (case hg => rfl); (case hr => first | (go_simp; done) | (go_simp; rfl)); intro g3 w1 HS_ hg_; clear HS; have HS := HS_; clear HS_)
    | ((with_reducible refine gate_dst (N := 4) rfl ?_); refine ev_box ?hg (N := 4) ?hd (cs := [.int .i64 ka, .int .i64 na, .string sa]) (t := 23) HS ?hr ?_; (case hd => rfl); (case hg => rfl); (case hr => first | (go_simp; done) | (go_simp; rfl)); intro g4 w2 HS_ hg_; clear HS; have HS := HS_; clear HS_)
    | ((with_reducible refine gate_dst (N := 5) rfl ?_); refine ev_box ?hg (N := 5) ?hd (cs := [.int .i64 kc, .int .i64 nc, .string sc]) (t := 23) HS ?hr ?_; (case hd => rfl); (case hg => rfl); (case hr => first | (go_simp; done) | (go_simp; rfl)); intro g5 w3 HS_ hg_; clear HS; have HS := HS_; clear HS_))
  refine start_ (n := 12) (S := fun w' => w'.cell? ⟨g5, 0, none⟩ = some (.int .i64 kc) ∧ w'.cell? ⟨g5, 1, none⟩ = some (.int .i64 nc) ∧ w'.cell? ⟨g5, 2, none⟩ = some (.string sc) ∧ w'.cell? ⟨g4, 0, none⟩ = some (.int .i64 ka) ∧ w'.cell? ⟨g4, 1, none⟩ = some (.int .i64 na) ∧ w'.cell? ⟨g4, 2, none⟩ = some (.string sa) ∧ w'.cell? ⟨g3, 0, none⟩ = some (.int .i64 ka) ∧ w'.cell? ⟨g3, 1, none⟩ = some (.int .i64 na) ∧ w'.cell? ⟨g3, 2, none⟩ = some (.string sa)) (ds := []) #[false, false, false, false, false, false, false, false, false, false, false, false] (by kernel_rfl) rfl rfl ⟨HS.drew.cell 0, HS.drew.cell 1, HS.drew.cell 2, (HS.drew.mv 1).cell 0, (HS.drew.mv 1).cell 1, (HS.drew.mv 1).cell 2, (HS.drew.mv 2).cell 0, (HS.drew.mv 2).cell 1, (HS.drew.mv 2).cell 2⟩ (fun hHeld => ?_)
  refine take_ (i := 0) (N := some 10) (v := ?_) (a' := ?_) #[true, false, false, false, false, false, false, false, false, false, false, false] rfl rfl (by kernel_rfl) (fun _ _ _ h => h) (Or.inl ⟨by rfl, ?_⟩) hHeld ?_ ?_
  rotate_left
  · rintro w' ⟨s0, s1, s2, s3, s4, s5, s6, s7, s8⟩
    go_simp
    with_reducible rfl
  rotate_left
  · simp only [Act.put, List.setIfInBounds_toArray, List.set_cons_zero, List.set_cons_succ, i64_w, i32_w]
    rfl
  refine take_ (i := 1) (N := some 11) (v := ?_) (a' := ?_) #[true, true, false, false, false, false, false, false, false, false, false, false] rfl rfl (by kernel_rfl) (fun _ _ _ h => h) (Or.inl ⟨by rfl, ?_⟩) hHeld ?_ ?_
  rotate_left
  · rintro w' ⟨s0, s1, s2, s3, s4, s5, s6, s7, s8⟩
    go_simp
    with_reducible rfl
  rotate_left
  · simp only [Act.put, List.setIfInBounds_toArray, List.set_cons_zero, List.set_cons_succ, i64_w, i32_w]
    rfl
  refine take_ (i := 3) (N := some 13) (v := ?_) (a' := ?_) #[true, true, false, true, false, false, false, false, false, false, false, false] rfl rfl (by kernel_rfl) (fun _ _ _ h => h) (Or.inl ⟨by rfl, ?_⟩) hHeld ?_ ?_
  rotate_left
  · rintro w' ⟨s0, s1, s2, s3, s4, s5, s6, s7, s8⟩
    go_simp
    with_reducible rfl
  rotate_left
  · simp only [Act.put, List.setIfInBounds_toArray, List.set_cons_zero, List.set_cons_succ, i64_w, i32_w]
    rfl
  refine take_ (i := 4) (N := some 14) (v := ?_) (a' := ?_) #[true, true, false, true, true, false, false, false, false, false, false, false] rfl rfl (by kernel_rfl) (fun _ _ _ h => h) (Or.inl ⟨by rfl, ?_⟩) hHeld ?_ ?_
  rotate_left
  · rintro w' ⟨s0, s1, s2, s3, s4, s5, s6, s7, s8⟩
    go_simp
    with_reducible rfl
  rotate_left
  · simp only [Act.put, List.setIfInBounds_toArray, List.set_cons_zero, List.set_cons_succ, i64_w, i32_w]
    rfl
  refine take_ (i := 6) (N := some 16) (v := ?_) (a' := ?_) #[true, true, false, true, true, false, true, false, false, false, false, false] rfl rfl (by kernel_rfl) (fun _ _ _ h => h) (Or.inl ⟨by rfl, ?_⟩) hHeld ?_ ?_
  rotate_left
  · rintro w' ⟨s0, s1, s2, s3, s4, s5, s6, s7, s8⟩
    go_simp
    with_reducible rfl
  rotate_left
  · simp only [Act.put, List.setIfInBounds_toArray, List.set_cons_zero, List.set_cons_succ, i64_w, i32_w]
    rfl
  refine take_ (i := 7) (N := some 17) (v := ?_) (a' := ?_) #[true, true, false, true, true, false, true, true, false, false, false, false] rfl rfl (by kernel_rfl) (fun _ _ _ h => h) (Or.inl ⟨by rfl, ?_⟩) hHeld ?_ ?_
  rotate_left
  · rintro w' ⟨s0, s1, s2, s3, s4, s5, s6, s7, s8⟩
    go_simp
    with_reducible rfl
  rotate_left
  · simp only [Act.put, List.setIfInBounds_toArray, List.set_cons_zero, List.set_cons_succ, i64_w, i32_w]
    rfl
  refine one_ (i := 2) (N := some 12) #[true, true, true, true, true, false, true, true, false, false, false, false] rfl rfl (by kernel_rfl) (by decide) (fun K hK => ?_)
  refine goes_ Tryd.func12 (by kernel_rfl) rfl #[.agg #[.int .i64 ka, .int .i64 na, .string sa], .agg #[.int .i64 ka, .int .i64 na, .string sa]] (by rfl) rfl rfl (by first | (simp only [List.map_toArray, List.map_cons, List.map_nil]; rfl) | simp only [List.map_toArray, List.map_cons, List.map_nil] | rfl) ?_
  refine ((HV1.out).call (F := [HP.obj g5 23 [.int .i64 kc, .int .i64 nc, .string sc], HP.obj g4 23 [.int .i64 ka, .int .i64 na, .string sa], HP.obj g3 23 [.int .i64 ka, .int .i64 na, .string sa]]) HS.drew (fun _ _ _ _ => trivial)).mono ?_
  rintro e_ w5 ⟨rfl, HS_⟩
  refine ⟨_, rfl, ?_⟩
  clear HS
  have HS : St w S w5 [HP.obj g5 23 [.int .i64 kc, .int .i64 nc, .string sc], HP.obj g4 23 [.int .i64 ka, .int .i64 na, .string sa], HP.obj g3 23 [.int .i64 ka, .int .i64 na, .string sa]] := HS_
  clear HS_
  refine hK.out _ _ ⟨HS.cell 0, HS.cell 1, HS.cell 2, (HS.mv 1).cell 0, (HS.mv 1).cell 1, (HS.mv 1).cell 2, (HS.mv 2).cell 0, (HS.mv 2).cell 1, (HS.mv 2).cell 2⟩ (fun hHeld => ?_)
  clear hK K
  refine norm_ (a' := ?_) ?_ ?_
  rotate_left
  · show Act.put _ (some 12) _ = _
    simp only [Act.put, List.setIfInBounds_toArray, List.set_cons_zero, List.set_cons_succ, i64_w, i32_w]
    rfl
  refine one_ (i := 5) (N := some 15) #[true, true, true, true, true, true, true, true, false, false, false, false] rfl rfl (by kernel_rfl) (by decide) (fun K hK => ?_)
  refine goes_ Tryd.func12 (by kernel_rfl) rfl #[.agg #[.int .i64 ka, .int .i64 na, .string sa], .agg #[.int .i64 kc, .int .i64 nc, .string sc]] (by rfl) rfl rfl (by first | (simp only [List.map_toArray, List.map_cons, List.map_nil]; rfl) | simp only [List.map_toArray, List.map_cons, List.map_nil] | rfl) ?_
  refine ((HV2.out).call (F := [HP.obj g5 23 [.int .i64 kc, .int .i64 nc, .string sc], HP.obj g4 23 [.int .i64 ka, .int .i64 na, .string sa], HP.obj g3 23 [.int .i64 ka, .int .i64 na, .string sa]]) HS (fun _ _ _ _ => trivial)).mono ?_
  rintro e_ w6 ⟨rfl, HS_⟩
  refine ⟨_, rfl, ?_⟩
  clear HS
  have HS : St w S w6 [HP.obj g5 23 [.int .i64 kc, .int .i64 nc, .string sc], HP.obj g4 23 [.int .i64 ka, .int .i64 na, .string sa], HP.obj g3 23 [.int .i64 ka, .int .i64 na, .string sa]] := HS_
  clear HS_
  refine hK.out _ _ ⟨HS.cell 0, HS.cell 1, HS.cell 2, (HS.mv 1).cell 0, (HS.mv 1).cell 1, (HS.mv 1).cell 2, (HS.mv 2).cell 0, (HS.mv 2).cell 1, (HS.mv 2).cell 2⟩ (fun hHeld => ?_)
  clear hK K
  refine norm_ (a' := ?_) ?_ ?_
  rotate_left
  · show Act.put _ (some 15) _ = _
    simp only [Act.put, List.setIfInBounds_toArray, List.set_cons_zero, List.set_cons_succ, i64_w, i32_w]
    rfl
  refine one_ (i := 8) (N := some 18) #[true, true, true, true, true, true, true, true, true, false, false, false] rfl rfl (by kernel_rfl) (by decide) (fun K hK => ?_)
  refine goes_ Tryd.func12 (by kernel_rfl) rfl #[.agg #[.int .i64 ka, .int .i64 na, .string sa], .agg #[.int .i64 kc, .int .i64 nc, .string sc]] (by rfl) rfl rfl (by first | (simp only [List.map_toArray, List.map_cons, List.map_nil]; rfl) | simp only [List.map_toArray, List.map_cons, List.map_nil] | rfl) ?_
  refine ((HV3.out).call (F := [HP.obj g5 23 [.int .i64 kc, .int .i64 nc, .string sc], HP.obj g4 23 [.int .i64 ka, .int .i64 na, .string sa], HP.obj g3 23 [.int .i64 ka, .int .i64 na, .string sa]]) HS (fun _ _ _ _ => trivial)).mono ?_
  rintro e_ w7 ⟨rfl, HS_⟩
  refine ⟨_, rfl, ?_⟩
  clear HS
  have HS : St w S w7 [HP.obj g5 23 [.int .i64 kc, .int .i64 nc, .string sc], HP.obj g4 23 [.int .i64 ka, .int .i64 na, .string sa], HP.obj g3 23 [.int .i64 ka, .int .i64 na, .string sa]] := HS_
  clear HS_
  refine hK.out _ _ ⟨HS.cell 0, HS.cell 1, HS.cell 2, (HS.mv 1).cell 0, (HS.mv 1).cell 1, (HS.mv 1).cell 2, (HS.mv 2).cell 0, (HS.mv 2).cell 1, (HS.mv 2).cell 2⟩ (fun hHeld => ?_)
  clear hK K
  refine norm_ (a' := ?_) ?_ ?_
  rotate_left
  · show Act.put _ (some 18) _ = _
    simp only [Act.put, List.setIfInBounds_toArray, List.set_cons_zero, List.set_cons_succ, i64_w, i32_w]
    rfl
  refine pure_ (i := 9) (N := some 7) (v := ?_) (a' := ?_) #[true, true, true, true, true, true, true, true, true, true, false, false] rfl rfl (by kernel_rfl) (fun _ _ _ h => h) (Or.inl ⟨by rfl, ?_⟩) ?_ ?_
  rotate_left
  · intro w'
    go_simp
    with_reducible rfl
  rotate_left
  · simp only [Act.put, List.setIfInBounds_toArray, List.set_cons_zero, List.set_cons_succ, i64_w, i32_w]
    rfl
  refine pure_ (i := 10) (N := some 8) (v := ?_) (a' := ?_) #[true, true, true, true, true, true, true, true, true, true, true, false] rfl rfl (by kernel_rfl) (fun _ _ _ h => h) (Or.inl ⟨by rfl, ?_⟩) ?_ ?_
  rotate_left
  · intro w'
    go_simp
    with_reducible rfl
  rotate_left
  · simp only [Act.put, List.setIfInBounds_toArray, List.set_cons_zero, List.set_cons_succ, i64_w, i32_w]
    rfl
  refine pure_ (i := 11) (N := some 9) (v := ?_) (a' := ?_) #[true, true, true, true, true, true, true, true, true, true, true, true] rfl rfl (by kernel_rfl) (fun _ _ _ h => h) (Or.inl ⟨by rfl, ?_⟩) ?_ ?_
  rotate_left
  · intro w'
    go_simp
    with_reducible rfl
  rotate_left
  · simp only [Act.put, List.setIfInBounds_toArray, List.set_cons_zero, List.set_cons_succ, i64_w, i32_w]
    rfl
  refine done_ (by kernel_rfl) ?_
  clear hHeld
  have r0 := HS.cell 0
  have r1 := HS.cell 1
  have r2 := HS.cell 2
  have q0 := (HS.mv 1).cell 0
  have q1 := (HS.mv 1).cell 1
  have q2 := (HS.mv 1).cell 2
  have p0 := (HS.mv 2).cell 0
  have p1 := (HS.mv 2).cell 1
  have p2 := (HS.mv 2).cell 2
  go_wp2_with fail
  refine (awake_fun.call (F := [HP.obj g5 23 [.int .i64 kc, .int .i64 nc, .string sc], HP.obj g4 23 [.int .i64 ka, .int .i64 na, .string sa], HP.obj g3 23 [.int .i64 ka, .int .i64 na, .string sa]]) HS (fun w' _ e _ => HR.out w' e)).mono ?_
  rintro e_ w8 ⟨rfl, HS_⟩
  clear HS r0 r1 r2 q0 q1 q2 p0 p1 p2
  have HS : St w S w8 [HP.obj g5 23 [.int .i64 kc, .int .i64 nc, .string sc], HP.obj g4 23 [.int .i64 ka, .int .i64 na, .string sa], HP.obj g3 23 [.int .i64 ka, .int .i64 na, .string sa]] := HS_
  clear HS_
  have r0 := HS.cell 0
  have r1 := HS.cell 1
  have r2 := HS.cell 2
  have q0 := (HS.mv 1).cell 0
  have q1 := (HS.mv 1).cell 1
  have q2 := (HS.mv 1).cell 2
  have p0 := (HS.mv 2).cell 0
  have p1 := (HS.mv 2).cell 1
  have p2 := (HS.mv 2).cell 2
  go_wp2_with fail
  refine (HV4.out.call (F := [HP.obj g5 23 [.int .i64 kc, .int .i64 nc, .string sc], HP.obj g4 23 [.int .i64 ka, .int .i64 na, .string sa], HP.obj g3 23 [.int .i64 ka, .int .i64 na, .string sa]]) HS (fun _ _ _ _ => trivial)).mono ?_
  rintro e_ w9 ⟨rfl, HS_⟩
  clear HS r0 r1 r2 q0 q1 q2 p0 p1 p2
  have HS : St w S w9 [HP.obj g5 23 [.int .i64 kc, .int .i64 nc, .string sc], HP.obj g4 23 [.int .i64 ka, .int .i64 na, .string sa], HP.obj g3 23 [.int .i64 ka, .int .i64 na, .string sa]] := HS_
  clear HS_
  have r0 := HS.cell 0
  have r1 := HS.cell 1
  have r2 := HS.cell 2
  have q0 := (HS.mv 1).cell 0
  have q1 := (HS.mv 1).cell 1
  have q2 := (HS.mv 1).cell 2
  have p0 := (HS.mv 2).cell 0
  have p1 := (HS.mv 2).cell 1
  have p2 := (HS.mv 2).cell 2
  go_wp2_with fail
  all_goals first
    | (go_ret; exact ⟨rfl, ((HS.out 0).out 0).out 0⟩)
    | (go_ret; exact ⟨by simp, ((HS.out 0).out 0).out 0⟩)
end Go.Proofs.YtnejbilnhebphaaDoor.Val
