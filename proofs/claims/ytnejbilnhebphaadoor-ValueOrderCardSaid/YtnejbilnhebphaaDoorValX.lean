/- Layer 1: Read, walked. -/
import Derived.Test.YtnejbilnhebphaaDoorValW
import Derived.Lib.ReplaceLaws
namespace Go.Proofs.YtnejbilnhebphaaDoor.Val
open Go.Lib (itoa parseIntB trimSuffix replaceAll hasPrefix)
open Go.RowKit Go.Proofs.YtnejbilnhebphaaDoorW.PrintWords Go.Proofs.YtnejbilnhebphaaDoorW.PrintLast Go.Proofs.YtnejbilnhebphaaDoorW.PrintMore Go.Proofs.YtnejbilnhebphaaDoor.Str Go.Proofs.YtnejbilnhebphaaDoor.PRef Go.Proofs.YtnejbilnhebphaaDoor.Sl
set_option linter.unusedVariables false
set_option linter.unusedSimpArgs false
theorem parse_ok (s : ByteArray) (hs : s.size ≤ 281474976710656) (v : Int) (h : parseIntB 64 s.toList = .ok v) (w : World) :
    Calls Tryd.prog 28 #[.string s, .int .i64 10, .int .i64 64] w fun e w' => e = .returned (.tuple #[.int .i64 v, .nilIface]) ∧ Below w.heap.size w w' := by
  refine (Tryd.strconv_ParseInt_10_at64_ok s (by omega) v (by rw [← toList_eq]; exact h) w).mono ?_
  rintro e w' ⟨rfl, h1⟩
  refine ⟨rfl, ?_⟩
  rcases h1 with rfl | ⟨t, rfl⟩
  · exact Below.refl _ _
  · exact Lib.bytesWorld_below w 5 t
theorem num_cases (e : Lib.NumEnd Int) : (∃ v, e = .ok v) ∨ e = parseIntB 64 [] ∨ e = .range := by
  cases e with
  | ok v => exact .inl ⟨v, rfl⟩
  | range => exact .inr (.inr rfl)
  | _ => exact .inr (.inl rfl)
theorem parse_bad (s : ByteArray) (hs : s.size ≤ 281474976710656) (h : ∀ v, parseIntB 64 s.toList ≠ .ok v) (w : World) (hv : Vars w) :
    Calls Tryd.prog 28 #[.string s, .int .i64 10, .int .i64 64] w fun e w' => (∃ r t q, e = .returned (.tuple #[.int .i64 r, .iface t (.pointer (some q))])) ∧ Below w.heap.size w w' := by
  rw [toList_eq] at h
  obtain ⟨tp, p, hv1⟩ := hv.syn
  obtain ⟨tq, q, hv2⟩ := hv.rng
  rcases num_cases (parseIntB 64 s.data.toList) with ⟨v, hp⟩ | hp | hp
  · exact absurd hp (h v)
  · refine (Tryd.strconv_ParseInt_10_at64_syntax_var s hs hp tp p w hv1).mono ?_
    rintro e w' ⟨N, rfl, _, _, hb⟩
    exact ⟨⟨_, _, _, rfl⟩, hb⟩
  · refine (Tryd.strconv_ParseInt_10_at64_range_var s hs hp tq q w hv2).mono ?_
    rintro e w' ⟨N, rfl, _, _, hb⟩
    exact ⟨⟨_, _, _, rfl⟩, hb⟩
theorem repl_fun (s : ByteArray) (hs : s.size ≤ 1048576) (w : World) (hv : Vars w) :
    Calls Tryd.prog 26 #[.string s, .string ⟨#[39, 39]⟩, .string ⟨#[39]⟩] w fun e w' => e = .returned (.string (ba (replaceAll s.toList [39, 39] [39]))) ∧ Below w.heap.size w w' := by
  obtain ⟨m, hm⟩ := hv.len
  have hc := Lib.countB_mul_le ⟨#[39, 39]⟩ (by decide) s.size s (Nat.le_refl _)
  have e2 : (⟨#[39, 39]⟩ : ByteArray).size = 2 := rfl
  have e1 : (⟨#[39]⟩ : ByteArray).size = 1 := rfl
  rw [e2] at hc
  refine (Tryd.strings_ReplaceAll s ⟨#[39, 39]⟩ ⟨#[39]⟩ m w (by omega) hm (by decide) (by rw [e1]; omega)).mono ?_
  rintro e w' ⟨rfl, hb⟩
  exact ⟨by rw [toList_eq]; rfl, hb⟩
theorem trim_fun (s : ByteArray) (hs : s.size ≤ 1048576) (w : World) :
    Calls Tryd.prog 27 #[.string s, .string ⟨#[39]⟩] w fun e w' => e = .returned (.string (ba (trimSuffix s.toList [39]))) ∧ w' = w := by
  refine (Tryd.strings_TrimSuffix s ⟨#[39]⟩ w (by omega)).mono ?_
  rintro e w' ⟨rfl, rfl⟩
  exact ⟨by rw [toList_eq]; rfl, rfl⟩
theorem prefix_fun (s : ByteArray) (w : World) :
    Calls Tryd.prog 25 #[.string s, .string ⟨#[39]⟩] w fun e w' => e = .returned (.bool (hasPrefix s.toList [39])) ∧ w' = w := by
  refine (Tryd.strings_HasPrefix s ⟨#[39]⟩ w).mono ?_
  rintro e w' ⟨rfl, rfl⟩
  exact ⟨by rw [toList_eq], rfl⟩
abbrev V23 (kd n : Int) (s : ByteArray) : Value := .agg #[.int .i64 kd, .int .i64 n, .string s]
set_option maxHeartbeats 8000000 in
set_option maxRecDepth 20000 in
theorem read_null  : FunV Tryd.prog 16 #[.string (⟨#[110, 117, 108, 108]⟩ : ByteArray)] Vars [] (.tuple #[V23 0 0 ⟨#[]⟩, .int .i64 0]) [] := by
  intro w S hS hR
  have HS := St.start hS
  have HR := Aside0.mk hR
  clear hS hR
  have huV := Tryd.underlying23
  have hp := print_fun 0 0 ⟨#[]⟩ (by decide) (by decide)
  have hp2 : (printV 0 0 (⟨#[]⟩ : ByteArray).toList) = ([110, 117, 108, 108], 0) := by rw [toList_eq]; rfl
  rw [hp2] at hp
  have hp3 : FunV Tryd.prog 14 #[V23 0 0 ⟨#[]⟩] Vars [] (.tuple #[.string (⟨#[110, 117, 108, 108]⟩ : ByteArray), .int .i64 0]) [] := hp
  have HPn := Aside0.mk hp3
  clear hp hp2 hp3
  go_enter Tryd.func16, Tryd.ntmps16
  go_wp2_with (first
    | ((with_reducible refine gate_dst (N := 2) rfl ?_); refine ev_box ?hg (N := 2) ?hd (cs := [.int .i64 0, .int .i64 0, .string ⟨#[]⟩]) (t := 23) HS ?hr ?_; (case hd => rfl); (case hg => rfl); (case hr => first | (go_simp; done) | (go_simp; rfl)); intro g2 w2 HS_ hg_; clear HS; have HS := HS_; clear HS_)
    | ((with_reducible refine gate_dst (N := 4) rfl ?_); refine ev_box ?hg (N := 4) ?hd (cs := [.int .i64 0, .int .i64 0, .string ⟨#[]⟩]) (t := 23) HS ?hr ?_; (case hd => rfl); (case hg => rfl); (case hr => first | (go_simp; done) | (go_simp; rfl)); intro g4 w4 HS_ hg_; clear HS; have HS := HS_; clear HS_; have p0 := HS.cell 0; have p1 := HS.cell 1; have p2 := HS.cell 2)
    | ((with_reducible refine gate_ (.store 23 (.tmp 4) (.tmp 9)) rfl ?_); refine ev_store rfl rfl 23 (.tmp 4) (.tmp 9) rfl HS (g := g4) (j := 0) rfl rfl (seg := [.int .i64 0, .int .i64 0, .string ⟨#[]⟩]) rfl ?ht rfl ?hf ?_; (case ht => kernel_rfl); (case hf => first | (simp; done) | (simp [splice]; done)); intro w5 HS_; clear HS p0 p1 p2; have HS : St w S w5 [HP.obj g4 23 [.int .i64 0, .int .i64 0, .string ⟨#[]⟩], HP.obj g2 23 [.int .i64 0, .int .i64 0, .string ⟨#[]⟩]] := HS_; clear HS_; have p0 := HS.cell 0; have p1 := HS.cell 1; have p2 := HS.cell 2))
  refine (HPn.out.call (F := [HP.obj g4 23 [.int .i64 0, .int .i64 0, .string ⟨#[]⟩], HP.obj g2 23 [.int .i64 0, .int .i64 0, .string ⟨#[]⟩]]) HS (fun w' _ e _ => HR.out w' e)).mono ?_
  rintro e_ w7 ⟨rfl, HS_⟩
  clear HS p0 p1 p2
  have HS : St w S w7 [HP.obj g4 23 [.int .i64 0, .int .i64 0, .string ⟨#[]⟩], HP.obj g2 23 [.int .i64 0, .int .i64 0, .string ⟨#[]⟩]] := HS_
  clear HS_
  have p0 := HS.cell 0
  have p1 := HS.cell 1
  have p2 := HS.cell 2
  go_wp2_with (first
    | ((with_reducible refine gate_ (.store 23 (.tmp 2) (.tmp 46)) rfl ?_); refine ev_store rfl rfl 23 (.tmp 2) (.tmp 46) rfl (HS.mv 1) (g := g2) (j := 0) rfl rfl (seg := [.int .i64 0, .int .i64 0, .string ⟨#[]⟩]) rfl ?ht rfl ?hf ?_; (case ht => kernel_rfl); (case hf => first | (simp; done) | (simp [splice]; done)); intro w8 HS_; clear HS; have HS : St w S w8 [HP.obj g2 23 [.int .i64 0, .int .i64 0, .string ⟨#[]⟩], HP.obj g4 23 [.int .i64 0, .int .i64 0, .string ⟨#[]⟩]] := HS_; clear HS_))
  exact bodyPost_ret (results_ct rfl _ _ g2 23 #[.int .i64 0, .int .i64 0, .string ⟨#[]⟩] (0, 0) _ rfl HS.blk Tryd.underlying23 rfl (by kernel_rfl)) rfl ⟨rfl, HS.out 0 |>.out 0⟩
theorem trim_le (l p : List UInt8) : (trimSuffix l p).length ≤ l.length := by
  unfold trimSuffix
  split
  · exact List.length_take_le' _ _
  · exact Nat.le_refl _
set_option maxHeartbeats 8000000 in
set_option maxRecDepth 20000 in
theorem read_quote_ok (s : ByteArray) (hs : s.size ≤ 1048576) (hn : (s.toList == [110, 117, 108, 108]) = false) (hpre : hasPrefix s.toList [39] = true) (v : ByteArray) (ht : replaceAll (trimSuffix s.toList.tail [39]) [39, 39] [39] = v.toList) (hp : printV 2 0 v.toList = (s.toList, 0)) : FunV Tryd.prog 16 #[.string s] Vars [] (.tuple #[V23 2 0 v, .int .i64 0]) [] := by
  intro w S hS hR
  have HS := St.start hS
  have HR := Aside0.mk hR
  clear hS hR
  have huV := Tryd.underlying23
  have hpf := print_fun 2 0 v (by decide) (by decide)
  rw [hp] at hpf
  have hpg : FunV Tryd.prog 14 #[V23 2 0 v] Vars [] (.tuple #[.string s, .int .i64 0]) [] := by
    have h := hpf
    simp only [ba_eq] at h
    exact h
  have HPn := Aside0.mk hpg
  clear hp hpf hpg
  have hsz : ¬ s.size = 0 := by
    intro e
    have h := size_toList s
    rw [List.length_eq_zero_iff.1 (h.trans e)] at hpre
    simp [hasPrefix] at hpre
  have hs1 : (1 : Int) ≤ (s.size : Int) := by omega
  have hst : (s.extract 1 s.size).toList = s.toList.tail := by
    rw [Lib.extract_toList, ← toList_eq, List.drop_one]
    exact List.take_of_length_le (by rw [List.length_tail, size_toList]; omega)
  have hss : (s.extract 1 s.size).size ≤ 1048576 := by rw [← size_toList, hst, List.length_tail, size_toList]; omega
  generalize hsx : s.extract 1 s.size = sx at hst hss
  have hrep : ∀ w, Vars w → Calls Tryd.prog 26 #[.string (ba (trimSuffix sx.toList [39])), .string ⟨#[39, 39]⟩, .string ⟨#[39]⟩] w fun e w' => e = .returned (.string v) ∧ Below w.heap.size w w' := by
    intro w hv
    have h := repl_fun (ba (trimSuffix sx.toList [39])) (by rw [ba_size]; have := trim_le sx.toList [39]; rw [size_toList] at this; omega) w hv
    rw [ba_toList, hst, ht, ba_eq, ← hst] at h
    exact h
  have HREP := Aside0.mk hrep
  have HPRE := Aside0.mk (prefix_fun s)
  have HPB := Aside0.mk hpre
  clear ht hst hpre hsz hrep
  go_enter Tryd.func16, Tryd.ntmps16
  go_wp2_with (first
    | ((with_reducible refine gate_dst (N := 2) rfl ?_); refine ev_box ?hg (N := 2) ?hd (cs := [.int .i64 0, .int .i64 0, .string ⟨#[]⟩]) (t := 23) HS ?hr ?_; (case hd => rfl); (case hg => rfl); (case hr => first | (go_simp; done) | (go_simp; rfl)); intro g2 w2 HS_ hg_; clear HS; have HS := HS_; clear HS_)
    | ((with_reducible refine gate_dst (N := 4) rfl ?_); refine ev_box ?hg (N := 4) ?hd (cs := [.int .i64 0, .int .i64 0, .string ⟨#[]⟩]) (t := 23) HS ?hr ?_; (case hd => rfl); (case hg => rfl); (case hr => first | (go_simp; done) | (go_simp; rfl)); intro g4 w4 HS_ hg_; clear HS; have HS := HS_; clear HS_; have p0 := HS.cell 0; have p1 := HS.cell 1; have p2 := HS.cell 2)
    | ((with_reducible refine gate_ (.store 23 (.tmp 4) (.tmp 9)) rfl ?_); refine ev_store rfl rfl 23 (.tmp 4) (.tmp 9) rfl HS (g := g4) (j := 0) rfl rfl (seg := [.int .i64 0, .int .i64 0, .string ⟨#[]⟩]) rfl ?ht rfl ?hf ?_; (case ht => kernel_rfl); (case hf => first | (simp; done) | (simp [splice]; done)); intro w5 HS_; clear HS p0 p1 p2; have HS : St w S w5 [HP.obj g4 23 [.int .i64 0, .int .i64 0, .string ⟨#[]⟩], HP.obj g2 23 [.int .i64 0, .int .i64 0, .string ⟨#[]⟩]] := HS_; clear HS_; have p0 := HS.cell 0; have p1 := HS.cell 1; have p2 := HS.cell 2)
    | ((with_reducible refine gate_ (.store 3 (.tmp 27) (.const (.int .i64 2))) rfl ?_); refine ev_store rfl rfl 3 (.tmp 27) (.const (.int .i64 2)) rfl HS (g := g4) (j := 0) rfl rfl (seg := [.int .i64 2]) rfl ?ht rfl ?hf ?_; (case ht => kernel_rfl); (case hf => first | (simp; done) | (simp [splice]; done)); intro w6 HS_; clear HS p0 p1 p2; have HS : St w S w6 [HP.obj g4 23 [.int .i64 2, .int .i64 0, .string ⟨#[]⟩], HP.obj g2 23 [.int .i64 0, .int .i64 0, .string ⟨#[]⟩]] := HS_; clear HS_; have p0 := HS.cell 0; have p1 := HS.cell 1; have p2 := HS.cell 2)
    | (go_at_call 25; refine (HPRE.out _).mono ?_; rintro e_ wa ⟨rfl, rfl⟩; rw [HPB.out])
    | (go_at_call 27; refine (trim_fun _ hss _).mono ?_; rintro e_ wa ⟨rfl, rfl⟩)
    | (go_at_call 26; refine (HREP.out _ (HR.out _ HS.ext)).mono ?_; rintro e_ wb ⟨rfl, hb⟩; have HS := HS.later hb; clear p0 p1 p2 hb; have p0 := HS.cell 0; have p1 := HS.cell 1; have p2 := HS.cell 2)
    | ((with_reducible refine gate_ (.store 9 (.tmp 32) (.tmp 31)) rfl ?_); refine ev_store rfl rfl 9 (.tmp 32) (.tmp 31) rfl HS (g := g4) (j := 2) rfl rfl (seg := [.string v]) rfl ?ht rfl ?hf ?_; (case ht => kernel_rfl); (case hf => first | (simp; done) | (simp [splice]; done)); intro w6 HS_; clear HS p0 p1 p2; have HS : St w S w6 [HP.obj g4 23 [.int .i64 2, .int .i64 0, .string v], HP.obj g2 23 [.int .i64 0, .int .i64 0, .string ⟨#[]⟩]] := HS_; clear HS_; have p0 := HS.cell 0; have p1 := HS.cell 1; have p2 := HS.cell 2))
  refine (HPn.out.call (F := [HP.obj g4 23 [.int .i64 2, .int .i64 0, .string v], HP.obj g2 23 [.int .i64 0, .int .i64 0, .string ⟨#[]⟩]]) HS (fun w' _ e _ => HR.out w' e)).mono ?_
  rintro e_ w7 ⟨rfl, HS_⟩
  clear HS p0 p1 p2
  have HS : St w S w7 [HP.obj g4 23 [.int .i64 2, .int .i64 0, .string v], HP.obj g2 23 [.int .i64 0, .int .i64 0, .string ⟨#[]⟩]] := HS_
  clear HS_
  have p0 := HS.cell 0
  have p1 := HS.cell 1
  have p2 := HS.cell 2
  go_wp2_with (first
    | ((with_reducible refine gate_ (.store 23 (.tmp 2) (.tmp 46)) rfl ?_); refine ev_store rfl rfl 23 (.tmp 2) (.tmp 46) rfl (HS.mv 1) (g := g2) (j := 0) rfl rfl (seg := [.int .i64 2, .int .i64 0, .string v]) rfl ?ht rfl ?hf ?_; (case ht => kernel_rfl); (case hf => first | (simp; done) | (simp [splice]; done)); intro w8 HS_; clear HS; have HS : St w S w8 [HP.obj g2 23 [.int .i64 2, .int .i64 0, .string v], HP.obj g4 23 [.int .i64 2, .int .i64 0, .string v]] := HS_; clear HS_))
  exact bodyPost_ret (results_ct rfl _ _ g2 23 #[.int .i64 2, .int .i64 0, .string v] (0, 0) _ rfl HS.blk Tryd.underlying23 rfl (by kernel_rfl)) rfl ⟨rfl, HS.out 0 |>.out 0⟩
set_option maxHeartbeats 8000000 in
set_option maxRecDepth 20000 in
theorem read_quote_ne (s : ByteArray) (hs : s.size ≤ 1048576) (hn : (s.toList == [110, 117, 108, 108]) = false) (hpre : hasPrefix s.toList [39] = true) (v : ByteArray) (ht : replaceAll (trimSuffix s.toList.tail [39]) [39, 39] [39] = v.toList) (p : ByteArray) (hp : printV 2 0 v.toList = (p.toList, 0)) (hne : (p.toList == s.toList) = false) : FunV Tryd.prog 16 #[.string s] Vars [] (.tuple #[V23 0 0 ⟨#[]⟩, .int .i64 10]) [] := by
  intro w S hS hR
  have HS := St.start hS
  have HR := Aside0.mk hR
  clear hS hR
  have huV := Tryd.underlying23
  have hpf := print_fun 2 0 v (by decide) (by decide)
  rw [hp] at hpf
  have hpg : FunV Tryd.prog 14 #[V23 2 0 v] Vars [] (.tuple #[.string p, .int .i64 0]) [] := by
    have h := hpf
    simp only [ba_eq] at h
    exact h
  have HPn := Aside0.mk hpg
  clear hp hpf hpg
  have hsz : ¬ s.size = 0 := by
    intro e
    have h := size_toList s
    rw [List.length_eq_zero_iff.1 (h.trans e)] at hpre
    simp [hasPrefix] at hpre
  have hs1 : (1 : Int) ≤ (s.size : Int) := by omega
  have hst : (s.extract 1 s.size).toList = s.toList.tail := by
    rw [Lib.extract_toList, ← toList_eq, List.drop_one]
    exact List.take_of_length_le (by rw [List.length_tail, size_toList]; omega)
  have hss : (s.extract 1 s.size).size ≤ 1048576 := by rw [← size_toList, hst, List.length_tail, size_toList]; omega
  generalize hsx : s.extract 1 s.size = sx at hst hss
  have hrep : ∀ w, Vars w → Calls Tryd.prog 26 #[.string (ba (trimSuffix sx.toList [39])), .string ⟨#[39, 39]⟩, .string ⟨#[39]⟩] w fun e w' => e = .returned (.string v) ∧ Below w.heap.size w w' := by
    intro w hv
    have h := repl_fun (ba (trimSuffix sx.toList [39])) (by rw [ba_size]; have := trim_le sx.toList [39]; rw [size_toList] at this; omega) w hv
    rw [ba_toList, hst, ht, ba_eq, ← hst] at h
    exact h
  have HREP := Aside0.mk hrep
  have HPRE := Aside0.mk (prefix_fun s)
  have HPB := Aside0.mk hpre
  clear ht hst hpre hsz hrep
  go_enter Tryd.func16, Tryd.ntmps16
  go_wp2_with (first
    | ((with_reducible refine gate_dst (N := 2) rfl ?_); refine ev_box ?hg (N := 2) ?hd (cs := [.int .i64 0, .int .i64 0, .string ⟨#[]⟩]) (t := 23) HS ?hr ?_; (case hd => rfl); (case hg => rfl); (case hr => first | (go_simp; done) | (go_simp; rfl)); intro g2 w2 HS_ hg_; clear HS; have HS := HS_; clear HS_)
    | ((with_reducible refine gate_dst (N := 4) rfl ?_); refine ev_box ?hg (N := 4) ?hd (cs := [.int .i64 0, .int .i64 0, .string ⟨#[]⟩]) (t := 23) HS ?hr ?_; (case hd => rfl); (case hg => rfl); (case hr => first | (go_simp; done) | (go_simp; rfl)); intro g4 w4 HS_ hg_; clear HS; have HS := HS_; clear HS_; have p0 := HS.cell 0; have p1 := HS.cell 1; have p2 := HS.cell 2)
    | ((with_reducible refine gate_ (.store 23 (.tmp 4) (.tmp 9)) rfl ?_); refine ev_store rfl rfl 23 (.tmp 4) (.tmp 9) rfl HS (g := g4) (j := 0) rfl rfl (seg := [.int .i64 0, .int .i64 0, .string ⟨#[]⟩]) rfl ?ht rfl ?hf ?_; (case ht => kernel_rfl); (case hf => first | (simp; done) | (simp [splice]; done)); intro w5 HS_; clear HS p0 p1 p2; have HS : St w S w5 [HP.obj g4 23 [.int .i64 0, .int .i64 0, .string ⟨#[]⟩], HP.obj g2 23 [.int .i64 0, .int .i64 0, .string ⟨#[]⟩]] := HS_; clear HS_; have p0 := HS.cell 0; have p1 := HS.cell 1; have p2 := HS.cell 2)
    | ((with_reducible refine gate_ (.store 3 (.tmp 27) (.const (.int .i64 2))) rfl ?_); refine ev_store rfl rfl 3 (.tmp 27) (.const (.int .i64 2)) rfl HS (g := g4) (j := 0) rfl rfl (seg := [.int .i64 2]) rfl ?ht rfl ?hf ?_; (case ht => kernel_rfl); (case hf => first | (simp; done) | (simp [splice]; done)); intro w6 HS_; clear HS p0 p1 p2; have HS : St w S w6 [HP.obj g4 23 [.int .i64 2, .int .i64 0, .string ⟨#[]⟩], HP.obj g2 23 [.int .i64 0, .int .i64 0, .string ⟨#[]⟩]] := HS_; clear HS_; have p0 := HS.cell 0; have p1 := HS.cell 1; have p2 := HS.cell 2)
    | (go_at_call 25; refine (HPRE.out _).mono ?_; rintro e_ wa ⟨rfl, rfl⟩; rw [HPB.out])
    | (go_at_call 27; refine (trim_fun _ hss _).mono ?_; rintro e_ wa ⟨rfl, rfl⟩)
    | (go_at_call 26; refine (HREP.out _ (HR.out _ HS.ext)).mono ?_; rintro e_ wb ⟨rfl, hb⟩; have HS := HS.later hb; clear p0 p1 p2 hb; have p0 := HS.cell 0; have p1 := HS.cell 1; have p2 := HS.cell 2)
    | ((with_reducible refine gate_ (.store 9 (.tmp 32) (.tmp 31)) rfl ?_); refine ev_store rfl rfl 9 (.tmp 32) (.tmp 31) rfl HS (g := g4) (j := 2) rfl rfl (seg := [.string v]) rfl ?ht rfl ?hf ?_; (case ht => kernel_rfl); (case hf => first | (simp; done) | (simp [splice]; done)); intro w6 HS_; clear HS p0 p1 p2; have HS : St w S w6 [HP.obj g4 23 [.int .i64 2, .int .i64 0, .string v], HP.obj g2 23 [.int .i64 0, .int .i64 0, .string ⟨#[]⟩]] := HS_; clear HS_; have p0 := HS.cell 0; have p1 := HS.cell 1; have p2 := HS.cell 2))
  refine (HPn.out.call (F := [HP.obj g4 23 [.int .i64 2, .int .i64 0, .string v], HP.obj g2 23 [.int .i64 0, .int .i64 0, .string ⟨#[]⟩]]) HS (fun w' _ e _ => HR.out w' e)).mono ?_
  rintro e_ w7 ⟨rfl, HS_⟩
  clear HS p0 p1 p2
  have HS : St w S w7 [HP.obj g4 23 [.int .i64 2, .int .i64 0, .string v], HP.obj g2 23 [.int .i64 0, .int .i64 0, .string ⟨#[]⟩]] := HS_
  clear HS_
  have p0 := HS.cell 0
  have p1 := HS.cell 1
  have p2 := HS.cell 2
  go_wp2_with (first
    | ((with_reducible refine gate_ (.store 23 (.tmp 2) (.tmp 45)) rfl ?_); refine ev_store rfl rfl 23 (.tmp 2) (.tmp 45) rfl (HS.mv 1) (g := g2) (j := 0) rfl rfl (seg := [.int .i64 0, .int .i64 0, .string ⟨#[]⟩]) rfl ?ht rfl ?hf ?_; (case ht => kernel_rfl); (case hf => first | (simp; done) | (simp [splice]; done)); intro w8 HS_; clear HS; have HS : St w S w8 [HP.obj g2 23 [.int .i64 0, .int .i64 0, .string ⟨#[]⟩], HP.obj g4 23 [.int .i64 2, .int .i64 0, .string v]] := HS_; clear HS_))
  exact bodyPost_ret (results_ct rfl _ _ g2 23 #[.int .i64 0, .int .i64 0, .string ⟨#[]⟩] (0, 0) _ rfl HS.blk Tryd.underlying23 rfl (by kernel_rfl)) rfl ⟨rfl, HS.out 0 |>.out 0⟩
set_option maxHeartbeats 8000000 in
set_option maxRecDepth 20000 in
theorem read_quote_no (s : ByteArray) (hs : s.size ≤ 1048576) (hn : (s.toList == [110, 117, 108, 108]) = false) (hpre : hasPrefix s.toList [39] = true) (v : ByteArray) (ht : replaceAll (trimSuffix s.toList.tail [39]) [39, 39] [39] = v.toList) (hp : printV 2 0 v.toList = ([], 10)) : FunV Tryd.prog 16 #[.string s] Vars [] (.tuple #[V23 0 0 ⟨#[]⟩, .int .i64 10]) [] := by
  intro w S hS hR
  have HS := St.start hS
  have HR := Aside0.mk hR
  clear hS hR
  have huV := Tryd.underlying23
  have hpf := print_fun 2 0 v (by decide) (by decide)
  rw [hp] at hpf
  have hpg : FunV Tryd.prog 14 #[V23 2 0 v] Vars [] (.tuple #[.string ⟨#[]⟩, .int .i64 10]) [] := by
    have h := hpf
    simp only [show ba [] = (⟨#[]⟩ : ByteArray) from rfl] at h
    exact h
  have HPn := Aside0.mk hpg
  clear hp hpf hpg
  have hsz : ¬ s.size = 0 := by
    intro e
    have h := size_toList s
    rw [List.length_eq_zero_iff.1 (h.trans e)] at hpre
    simp [hasPrefix] at hpre
  have hs1 : (1 : Int) ≤ (s.size : Int) := by omega
  have hst : (s.extract 1 s.size).toList = s.toList.tail := by
    rw [Lib.extract_toList, ← toList_eq, List.drop_one]
    exact List.take_of_length_le (by rw [List.length_tail, size_toList]; omega)
  have hss : (s.extract 1 s.size).size ≤ 1048576 := by rw [← size_toList, hst, List.length_tail, size_toList]; omega
  generalize hsx : s.extract 1 s.size = sx at hst hss
  have hrep : ∀ w, Vars w → Calls Tryd.prog 26 #[.string (ba (trimSuffix sx.toList [39])), .string ⟨#[39, 39]⟩, .string ⟨#[39]⟩] w fun e w' => e = .returned (.string v) ∧ Below w.heap.size w w' := by
    intro w hv
    have h := repl_fun (ba (trimSuffix sx.toList [39])) (by rw [ba_size]; have := trim_le sx.toList [39]; rw [size_toList] at this; omega) w hv
    rw [ba_toList, hst, ht, ba_eq, ← hst] at h
    exact h
  have HREP := Aside0.mk hrep
  have HPRE := Aside0.mk (prefix_fun s)
  have HPB := Aside0.mk hpre
  clear ht hst hpre hsz hrep
  go_enter Tryd.func16, Tryd.ntmps16
  go_wp2_with (first
    | ((with_reducible refine gate_dst (N := 2) rfl ?_); refine ev_box ?hg (N := 2) ?hd (cs := [.int .i64 0, .int .i64 0, .string ⟨#[]⟩]) (t := 23) HS ?hr ?_; (case hd => rfl); (case hg => rfl); (case hr => first | (go_simp; done) | (go_simp; rfl)); intro g2 w2 HS_ hg_; clear HS; have HS := HS_; clear HS_)
    | ((with_reducible refine gate_dst (N := 4) rfl ?_); refine ev_box ?hg (N := 4) ?hd (cs := [.int .i64 0, .int .i64 0, .string ⟨#[]⟩]) (t := 23) HS ?hr ?_; (case hd => rfl); (case hg => rfl); (case hr => first | (go_simp; done) | (go_simp; rfl)); intro g4 w4 HS_ hg_; clear HS; have HS := HS_; clear HS_; have p0 := HS.cell 0; have p1 := HS.cell 1; have p2 := HS.cell 2)
    | ((with_reducible refine gate_ (.store 23 (.tmp 4) (.tmp 9)) rfl ?_); refine ev_store rfl rfl 23 (.tmp 4) (.tmp 9) rfl HS (g := g4) (j := 0) rfl rfl (seg := [.int .i64 0, .int .i64 0, .string ⟨#[]⟩]) rfl ?ht rfl ?hf ?_; (case ht => kernel_rfl); (case hf => first | (simp; done) | (simp [splice]; done)); intro w5 HS_; clear HS p0 p1 p2; have HS : St w S w5 [HP.obj g4 23 [.int .i64 0, .int .i64 0, .string ⟨#[]⟩], HP.obj g2 23 [.int .i64 0, .int .i64 0, .string ⟨#[]⟩]] := HS_; clear HS_; have p0 := HS.cell 0; have p1 := HS.cell 1; have p2 := HS.cell 2)
    | ((with_reducible refine gate_ (.store 3 (.tmp 27) (.const (.int .i64 2))) rfl ?_); refine ev_store rfl rfl 3 (.tmp 27) (.const (.int .i64 2)) rfl HS (g := g4) (j := 0) rfl rfl (seg := [.int .i64 2]) rfl ?ht rfl ?hf ?_; (case ht => kernel_rfl); (case hf => first | (simp; done) | (simp [splice]; done)); intro w6 HS_; clear HS p0 p1 p2; have HS : St w S w6 [HP.obj g4 23 [.int .i64 2, .int .i64 0, .string ⟨#[]⟩], HP.obj g2 23 [.int .i64 0, .int .i64 0, .string ⟨#[]⟩]] := HS_; clear HS_; have p0 := HS.cell 0; have p1 := HS.cell 1; have p2 := HS.cell 2)
    | (go_at_call 25; refine (HPRE.out _).mono ?_; rintro e_ wa ⟨rfl, rfl⟩; rw [HPB.out])
    | (go_at_call 27; refine (trim_fun _ hss _).mono ?_; rintro e_ wa ⟨rfl, rfl⟩)
    | (go_at_call 26; refine (HREP.out _ (HR.out _ HS.ext)).mono ?_; rintro e_ wb ⟨rfl, hb⟩; have HS := HS.later hb; clear p0 p1 p2 hb; have p0 := HS.cell 0; have p1 := HS.cell 1; have p2 := HS.cell 2)
    | ((with_reducible refine gate_ (.store 9 (.tmp 32) (.tmp 31)) rfl ?_); refine ev_store rfl rfl 9 (.tmp 32) (.tmp 31) rfl HS (g := g4) (j := 2) rfl rfl (seg := [.string v]) rfl ?ht rfl ?hf ?_; (case ht => kernel_rfl); (case hf => first | (simp; done) | (simp [splice]; done)); intro w6 HS_; clear HS p0 p1 p2; have HS : St w S w6 [HP.obj g4 23 [.int .i64 2, .int .i64 0, .string v], HP.obj g2 23 [.int .i64 0, .int .i64 0, .string ⟨#[]⟩]] := HS_; clear HS_; have p0 := HS.cell 0; have p1 := HS.cell 1; have p2 := HS.cell 2))
  refine (HPn.out.call (F := [HP.obj g4 23 [.int .i64 2, .int .i64 0, .string v], HP.obj g2 23 [.int .i64 0, .int .i64 0, .string ⟨#[]⟩]]) HS (fun w' _ e _ => HR.out w' e)).mono ?_
  rintro e_ w7 ⟨rfl, HS_⟩
  clear HS p0 p1 p2
  have HS : St w S w7 [HP.obj g4 23 [.int .i64 2, .int .i64 0, .string v], HP.obj g2 23 [.int .i64 0, .int .i64 0, .string ⟨#[]⟩]] := HS_
  clear HS_
  have p0 := HS.cell 0
  have p1 := HS.cell 1
  have p2 := HS.cell 2
  go_wp2_with (first
    | ((with_reducible refine gate_ (.store 23 (.tmp 2) (.tmp 45)) rfl ?_); refine ev_store rfl rfl 23 (.tmp 2) (.tmp 45) rfl (HS.mv 1) (g := g2) (j := 0) rfl rfl (seg := [.int .i64 0, .int .i64 0, .string ⟨#[]⟩]) rfl ?ht rfl ?hf ?_; (case ht => kernel_rfl); (case hf => first | (simp; done) | (simp [splice]; done)); intro w8 HS_; clear HS; have HS : St w S w8 [HP.obj g2 23 [.int .i64 0, .int .i64 0, .string ⟨#[]⟩], HP.obj g4 23 [.int .i64 2, .int .i64 0, .string v]] := HS_; clear HS_))
  exact bodyPost_ret (results_ct rfl _ _ g2 23 #[.int .i64 0, .int .i64 0, .string ⟨#[]⟩] (0, 0) _ rfl HS.blk Tryd.underlying23 rfl (by kernel_rfl)) rfl ⟨rfl, HS.out 0 |>.out 0⟩
set_option maxHeartbeats 8000000 in
set_option maxRecDepth 20000 in
theorem read_num_ok (s : ByteArray) (hs : s.size ≤ 1048576) (hn : (s.toList == [110, 117, 108, 108]) = false) (hpre : hasPrefix s.toList [39] = false) (n : Int) (h0 : -9223372036854775808 ≤ n) (h1 : n ≤ 9223372036854775807) (ht : parseIntB 64 s.toList = .ok n) (hp : printV 1 n (⟨#[]⟩ : ByteArray).toList = (s.toList, 0)) : FunV Tryd.prog 16 #[.string s] Vars [] (.tuple #[V23 1 n ⟨#[]⟩, .int .i64 0]) [] := by
  intro w S hS hR
  have HS := St.start hS
  have HR := Aside0.mk hR
  clear hS hR
  have huV := Tryd.underlying23
  have hpf := print_fun 1 n ⟨#[]⟩ h0 h1
  rw [hp] at hpf
  have hpg : FunV Tryd.prog 14 #[V23 1 n ⟨#[]⟩] Vars [] (.tuple #[.string s, .int .i64 0]) [] := by
    have h := hpf
    simp only [ba_eq] at h
    exact h
  have HPn := Aside0.mk hpg
  clear hp hpf hpg
  have HPRE := Aside0.mk (prefix_fun s)
  have HPB := Aside0.mk hpre
  have HPI := Aside0.mk (parse_ok s (by omega) n ht)
  clear ht hpre
  go_enter Tryd.func16, Tryd.ntmps16
  go_wp2_with (first
    | ((with_reducible refine gate_dst (N := 2) rfl ?_); refine ev_box ?hg (N := 2) ?hd (cs := [.int .i64 0, .int .i64 0, .string ⟨#[]⟩]) (t := 23) HS ?hr ?_; (case hd => rfl); (case hg => rfl); (case hr => first | (go_simp; done) | (go_simp; rfl)); intro g2 w2 HS_ hg_; clear HS; have HS := HS_; clear HS_)
    | ((with_reducible refine gate_dst (N := 4) rfl ?_); refine ev_box ?hg (N := 4) ?hd (cs := [.int .i64 0, .int .i64 0, .string ⟨#[]⟩]) (t := 23) HS ?hr ?_; (case hd => rfl); (case hg => rfl); (case hr => first | (go_simp; done) | (go_simp; rfl)); intro g4 w4 HS_ hg_; clear HS; have HS := HS_; clear HS_; have p0 := HS.cell 0; have p1 := HS.cell 1; have p2 := HS.cell 2)
    | ((with_reducible refine gate_ (.store 23 (.tmp 4) (.tmp 9)) rfl ?_); refine ev_store rfl rfl 23 (.tmp 4) (.tmp 9) rfl HS (g := g4) (j := 0) rfl rfl (seg := [.int .i64 0, .int .i64 0, .string ⟨#[]⟩]) rfl ?ht rfl ?hf ?_; (case ht => kernel_rfl); (case hf => first | (simp; done) | (simp [splice]; done)); intro w5 HS_; clear HS p0 p1 p2; have HS : St w S w5 [HP.obj g4 23 [.int .i64 0, .int .i64 0, .string ⟨#[]⟩], HP.obj g2 23 [.int .i64 0, .int .i64 0, .string ⟨#[]⟩]] := HS_; clear HS_; have p0 := HS.cell 0; have p1 := HS.cell 1; have p2 := HS.cell 2)
    | (go_at_call 25; refine (HPRE.out _).mono ?_; rintro e_ wa ⟨rfl, rfl⟩; rw [HPB.out])
    | (go_at_call 28; refine (HPI.out _).mono ?_; rintro e_ wb ⟨rfl, hb⟩; have HS := HS.later hb; clear p0 p1 p2 hb; have p0 := HS.cell 0; have p1 := HS.cell 1; have p2 := HS.cell 2)
    | ((with_reducible refine gate_ (.store 3 (.tmp 19) (.const (.int .i64 1))) rfl ?_); refine ev_store rfl rfl 3 (.tmp 19) (.const (.int .i64 1)) rfl HS (g := g4) (j := 0) rfl rfl (seg := [.int .i64 1]) rfl ?ht rfl ?hf ?_; (case ht => kernel_rfl); (case hf => first | (simp; done) | (simp [splice]; done)); intro w6 HS_; clear HS p0 p1 p2; have HS : St w S w6 [HP.obj g4 23 [.int .i64 1, .int .i64 0, .string ⟨#[]⟩], HP.obj g2 23 [.int .i64 0, .int .i64 0, .string ⟨#[]⟩]] := HS_; clear HS_; have p0 := HS.cell 0; have p1 := HS.cell 1; have p2 := HS.cell 2)
    | ((with_reducible refine gate_ (.store 2 (.tmp 20) (.tmp 18)) rfl ?_); refine ev_store rfl rfl 2 (.tmp 20) (.tmp 18) rfl HS (g := g4) (j := 1) rfl rfl (seg := [.int .i64 n]) rfl ?ht rfl ?hf ?_; (case ht => kernel_rfl); (case hf => first | (simp; done) | (simp [splice]; done)); intro w6 HS_; clear HS p0 p1 p2; have HS : St w S w6 [HP.obj g4 23 [.int .i64 1, .int .i64 n, .string ⟨#[]⟩], HP.obj g2 23 [.int .i64 0, .int .i64 0, .string ⟨#[]⟩]] := HS_; clear HS_; have p0 := HS.cell 0; have p1 := HS.cell 1; have p2 := HS.cell 2))
  refine (HPn.out.call (F := [HP.obj g4 23 [.int .i64 1, .int .i64 n, .string ⟨#[]⟩], HP.obj g2 23 [.int .i64 0, .int .i64 0, .string ⟨#[]⟩]]) HS (fun w' _ e _ => HR.out w' e)).mono ?_
  rintro e_ w7 ⟨rfl, HS_⟩
  clear HS p0 p1 p2
  have HS : St w S w7 [HP.obj g4 23 [.int .i64 1, .int .i64 n, .string ⟨#[]⟩], HP.obj g2 23 [.int .i64 0, .int .i64 0, .string ⟨#[]⟩]] := HS_
  clear HS_
  have p0 := HS.cell 0
  have p1 := HS.cell 1
  have p2 := HS.cell 2
  go_wp2_with (first
    | ((with_reducible refine gate_ (.store 23 (.tmp 2) (.tmp 46)) rfl ?_); refine ev_store rfl rfl 23 (.tmp 2) (.tmp 46) rfl (HS.mv 1) (g := g2) (j := 0) rfl rfl (seg := [.int .i64 1, .int .i64 n, .string ⟨#[]⟩]) rfl ?ht rfl ?hf ?_; (case ht => kernel_rfl); (case hf => first | (simp; done) | (simp [splice]; done)); intro w8 HS_; clear HS; have HS : St w S w8 [HP.obj g2 23 [.int .i64 1, .int .i64 n, .string ⟨#[]⟩], HP.obj g4 23 [.int .i64 1, .int .i64 n, .string ⟨#[]⟩]] := HS_; clear HS_))
  exact bodyPost_ret (results_ct rfl _ _ g2 23 #[.int .i64 1, .int .i64 n, .string ⟨#[]⟩] (0, 0) _ rfl HS.blk Tryd.underlying23 rfl (by kernel_rfl)) rfl ⟨rfl, HS.out 0 |>.out 0⟩
set_option maxHeartbeats 8000000 in
set_option maxRecDepth 20000 in
theorem read_num_ne (s : ByteArray) (hs : s.size ≤ 1048576) (hn : (s.toList == [110, 117, 108, 108]) = false) (hpre : hasPrefix s.toList [39] = false) (n : Int) (h0 : -9223372036854775808 ≤ n) (h1 : n ≤ 9223372036854775807) (ht : parseIntB 64 s.toList = .ok n) (p : ByteArray) (hp : printV 1 n (⟨#[]⟩ : ByteArray).toList = (p.toList, 0)) (hne : (p.toList == s.toList) = false) : FunV Tryd.prog 16 #[.string s] Vars [] (.tuple #[V23 0 0 ⟨#[]⟩, .int .i64 10]) [] := by
  intro w S hS hR
  have HS := St.start hS
  have HR := Aside0.mk hR
  clear hS hR
  have huV := Tryd.underlying23
  have hpf := print_fun 1 n ⟨#[]⟩ h0 h1
  rw [hp] at hpf
  have hpg : FunV Tryd.prog 14 #[V23 1 n ⟨#[]⟩] Vars [] (.tuple #[.string p, .int .i64 0]) [] := by
    have h := hpf
    simp only [ba_eq] at h
    exact h
  have HPn := Aside0.mk hpg
  clear hp hpf hpg
  have HPRE := Aside0.mk (prefix_fun s)
  have HPB := Aside0.mk hpre
  have HPI := Aside0.mk (parse_ok s (by omega) n ht)
  clear ht hpre
  go_enter Tryd.func16, Tryd.ntmps16
  go_wp2_with (first
    | ((with_reducible refine gate_dst (N := 2) rfl ?_); refine ev_box ?hg (N := 2) ?hd (cs := [.int .i64 0, .int .i64 0, .string ⟨#[]⟩]) (t := 23) HS ?hr ?_; (case hd => rfl); (case hg => rfl); (case hr => first | (go_simp; done) | (go_simp; rfl)); intro g2 w2 HS_ hg_; clear HS; have HS := HS_; clear HS_)
    | ((with_reducible refine gate_dst (N := 4) rfl ?_); refine ev_box ?hg (N := 4) ?hd (cs := [.int .i64 0, .int .i64 0, .string ⟨#[]⟩]) (t := 23) HS ?hr ?_; (case hd => rfl); (case hg => rfl); (case hr => first | (go_simp; done) | (go_simp; rfl)); intro g4 w4 HS_ hg_; clear HS; have HS := HS_; clear HS_; have p0 := HS.cell 0; have p1 := HS.cell 1; have p2 := HS.cell 2)
    | ((with_reducible refine gate_ (.store 23 (.tmp 4) (.tmp 9)) rfl ?_); refine ev_store rfl rfl 23 (.tmp 4) (.tmp 9) rfl HS (g := g4) (j := 0) rfl rfl (seg := [.int .i64 0, .int .i64 0, .string ⟨#[]⟩]) rfl ?ht rfl ?hf ?_; (case ht => kernel_rfl); (case hf => first | (simp; done) | (simp [splice]; done)); intro w5 HS_; clear HS p0 p1 p2; have HS : St w S w5 [HP.obj g4 23 [.int .i64 0, .int .i64 0, .string ⟨#[]⟩], HP.obj g2 23 [.int .i64 0, .int .i64 0, .string ⟨#[]⟩]] := HS_; clear HS_; have p0 := HS.cell 0; have p1 := HS.cell 1; have p2 := HS.cell 2)
    | (go_at_call 25; refine (HPRE.out _).mono ?_; rintro e_ wa ⟨rfl, rfl⟩; rw [HPB.out])
    | (go_at_call 28; refine (HPI.out _).mono ?_; rintro e_ wb ⟨rfl, hb⟩; have HS := HS.later hb; clear p0 p1 p2 hb; have p0 := HS.cell 0; have p1 := HS.cell 1; have p2 := HS.cell 2)
    | ((with_reducible refine gate_ (.store 3 (.tmp 19) (.const (.int .i64 1))) rfl ?_); refine ev_store rfl rfl 3 (.tmp 19) (.const (.int .i64 1)) rfl HS (g := g4) (j := 0) rfl rfl (seg := [.int .i64 1]) rfl ?ht rfl ?hf ?_; (case ht => kernel_rfl); (case hf => first | (simp; done) | (simp [splice]; done)); intro w6 HS_; clear HS p0 p1 p2; have HS : St w S w6 [HP.obj g4 23 [.int .i64 1, .int .i64 0, .string ⟨#[]⟩], HP.obj g2 23 [.int .i64 0, .int .i64 0, .string ⟨#[]⟩]] := HS_; clear HS_; have p0 := HS.cell 0; have p1 := HS.cell 1; have p2 := HS.cell 2)
    | ((with_reducible refine gate_ (.store 2 (.tmp 20) (.tmp 18)) rfl ?_); refine ev_store rfl rfl 2 (.tmp 20) (.tmp 18) rfl HS (g := g4) (j := 1) rfl rfl (seg := [.int .i64 n]) rfl ?ht rfl ?hf ?_; (case ht => kernel_rfl); (case hf => first | (simp; done) | (simp [splice]; done)); intro w6 HS_; clear HS p0 p1 p2; have HS : St w S w6 [HP.obj g4 23 [.int .i64 1, .int .i64 n, .string ⟨#[]⟩], HP.obj g2 23 [.int .i64 0, .int .i64 0, .string ⟨#[]⟩]] := HS_; clear HS_; have p0 := HS.cell 0; have p1 := HS.cell 1; have p2 := HS.cell 2))
  refine (HPn.out.call (F := [HP.obj g4 23 [.int .i64 1, .int .i64 n, .string ⟨#[]⟩], HP.obj g2 23 [.int .i64 0, .int .i64 0, .string ⟨#[]⟩]]) HS (fun w' _ e _ => HR.out w' e)).mono ?_
  rintro e_ w7 ⟨rfl, HS_⟩
  clear HS p0 p1 p2
  have HS : St w S w7 [HP.obj g4 23 [.int .i64 1, .int .i64 n, .string ⟨#[]⟩], HP.obj g2 23 [.int .i64 0, .int .i64 0, .string ⟨#[]⟩]] := HS_
  clear HS_
  have p0 := HS.cell 0
  have p1 := HS.cell 1
  have p2 := HS.cell 2
  go_wp2_with (first
    | ((with_reducible refine gate_ (.store 23 (.tmp 2) (.tmp 45)) rfl ?_); refine ev_store rfl rfl 23 (.tmp 2) (.tmp 45) rfl (HS.mv 1) (g := g2) (j := 0) rfl rfl (seg := [.int .i64 0, .int .i64 0, .string ⟨#[]⟩]) rfl ?ht rfl ?hf ?_; (case ht => kernel_rfl); (case hf => first | (simp; done) | (simp [splice]; done)); intro w8 HS_; clear HS; have HS : St w S w8 [HP.obj g2 23 [.int .i64 0, .int .i64 0, .string ⟨#[]⟩], HP.obj g4 23 [.int .i64 1, .int .i64 n, .string ⟨#[]⟩]] := HS_; clear HS_))
  exact bodyPost_ret (results_ct rfl _ _ g2 23 #[.int .i64 0, .int .i64 0, .string ⟨#[]⟩] (0, 0) _ rfl HS.blk Tryd.underlying23 rfl (by kernel_rfl)) rfl ⟨rfl, HS.out 0 |>.out 0⟩
set_option maxHeartbeats 8000000 in
set_option maxRecDepth 20000 in
theorem read_bad (s : ByteArray) (hs : s.size ≤ 1048576) (hn : (s.toList == [110, 117, 108, 108]) = false) (hpre : hasPrefix s.toList [39] = false) (ht : ∀ v, parseIntB 64 s.toList ≠ .ok v) : FunV Tryd.prog 16 #[.string s] Vars [] (.tuple #[V23 0 0 ⟨#[]⟩, .int .i64 10]) [] := by
  intro w S hS hR
  have HS := St.start hS
  have HR := Aside0.mk hR
  clear hS hR
  have huV := Tryd.underlying23
  have HPRE := Aside0.mk (prefix_fun s)
  have HPB := Aside0.mk hpre
  have HPI := Aside0.mk (parse_bad s (by omega) ht)
  clear ht hpre
  go_enter Tryd.func16, Tryd.ntmps16
  go_wp2_with (first
    | ((with_reducible refine gate_dst (N := 2) rfl ?_); refine ev_box ?hg (N := 2) ?hd (cs := [.int .i64 0, .int .i64 0, .string ⟨#[]⟩]) (t := 23) HS ?hr ?_; (case hd => rfl); (case hg => rfl); (case hr => first | (go_simp; done) | (go_simp; rfl)); intro g2 w2 HS_ hg_; clear HS; have HS := HS_; clear HS_)
    | ((with_reducible refine gate_dst (N := 4) rfl ?_); refine ev_box ?hg (N := 4) ?hd (cs := [.int .i64 0, .int .i64 0, .string ⟨#[]⟩]) (t := 23) HS ?hr ?_; (case hd => rfl); (case hg => rfl); (case hr => first | (go_simp; done) | (go_simp; rfl)); intro g4 w4 HS_ hg_; clear HS; have HS := HS_; clear HS_; have p0 := HS.cell 0; have p1 := HS.cell 1; have p2 := HS.cell 2)
    | ((with_reducible refine gate_ (.store 23 (.tmp 4) (.tmp 9)) rfl ?_); refine ev_store rfl rfl 23 (.tmp 4) (.tmp 9) rfl HS (g := g4) (j := 0) rfl rfl (seg := [.int .i64 0, .int .i64 0, .string ⟨#[]⟩]) rfl ?ht rfl ?hf ?_; (case ht => kernel_rfl); (case hf => first | (simp; done) | (simp [splice]; done)); intro w5 HS_; clear HS p0 p1 p2; have HS : St w S w5 [HP.obj g4 23 [.int .i64 0, .int .i64 0, .string ⟨#[]⟩], HP.obj g2 23 [.int .i64 0, .int .i64 0, .string ⟨#[]⟩]] := HS_; clear HS_; have p0 := HS.cell 0; have p1 := HS.cell 1; have p2 := HS.cell 2)
    | (go_at_call 25; refine (HPRE.out _).mono ?_; rintro e_ wa ⟨rfl, rfl⟩; rw [HPB.out])
    | (go_at_call 28; refine (HPI.out _ (HR.out _ HS.ext)).mono ?_; rintro e_ wb ⟨⟨r_, t_, q_, rfl⟩, hb⟩; have HS := HS.later hb; clear p0 p1 p2 hb; have p0 := HS.cell 0; have p1 := HS.cell 1; have p2 := HS.cell 2)
    | ((with_reducible refine gate_ (.store 23 (.tmp 2) (.tmp 17)) rfl ?_); refine ev_store rfl rfl 23 (.tmp 2) (.tmp 17) rfl (HS.mv 1) (g := g2) (j := 0) rfl rfl (seg := [.int .i64 0, .int .i64 0, .string ⟨#[]⟩]) rfl ?ht rfl ?hf ?_; (case ht => kernel_rfl); (case hf => first | (simp; done) | (simp [splice]; done)); intro w8 HS_; clear HS p0 p1 p2; have HS : St w S w8 [HP.obj g2 23 [.int .i64 0, .int .i64 0, .string ⟨#[]⟩], HP.obj g4 23 [.int .i64 0, .int .i64 0, .string ⟨#[]⟩]] := HS_; clear HS_))
  exact bodyPost_ret (results_ct rfl _ _ g2 23 #[.int .i64 0, .int .i64 0, .string ⟨#[]⟩] (0, 0) _ rfl HS.blk Tryd.underlying23 rfl (by kernel_rfl)) rfl ⟨rfl, HS.out 0 |>.out 0⟩

end Go.Proofs.YtnejbilnhebphaaDoor.Val
