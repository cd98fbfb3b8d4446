/- Layer 17: LexBlanks, walked. -/
import Derived.Test.YtkjfecpfjfkpnaaDoorLexL
import Derived.Test.YtkjfecpfjfkpnaaDoorLexU
namespace Go.Proofs.YtkjfecpfjfkpnaaDoor.Lex
open Go.RowKit Go.Proofs.YtkjfecpfjfkpnaaDoorW.PrintWords Go.Proofs.YtkjfecpfjfkpnaaDoorW.PrintLast Go.Proofs.YtkjfecpfjfkpnaaDoorW.PrintMore Go.Proofs.YtkjfecpfjfkpnaaDoor.Sl Go.Proofs.YtkjfecpfjfkpnaaDoor.Str
open Go.Proofs.YtkjfecpfjfkpnaaDoor.Val (dbl quote)
set_option linter.unusedVariables false
set_option linter.unusedSimpArgs false
theorem size_app (a b : ByteArray) : (a ++ b).size = a.size + b.size := ByteArray.size_append
theorem app_toList (a b : ByteArray) : (a ++ b).toList = a.toList ++ b.toList := by
  rw [toList_eq, toList_eq, toList_eq, ByteArray.data_append, Array.toList_append]
set_option maxHeartbeats 16000000 in
set_option maxRecDepth 40000 in
theorem blanks_err (s : ByteArray) (n : Int) (p : Nat) (e : Int) (hw : wordsP s.toList = ([], p, e)) (he : e ≠ 0) : FunV Tryd.prog 4 #[.string s, .int .i64 n] Vars [] (.bool true) [] := by
  intro w S hS hR
  have HS := St.start hS
  have HR := Aside0.mk hR
  clear hS hR
  have huS := Tryd.underlying22
  have huW := Tryd.underlying28
  have H1 := Aside0.mk (words_call s [] p e hw)
  have heb : (e == 0) = false := by rw [beq_eq_false_iff_ne]; exact he
  have he2 : ¬ e = 0 := he
  clear hw he
  go_enter Tryd.func4, Tryd.ntmps4
  go_wp2_with fail
  refine (H1.out.call (F := []) HS (fun w' _ e _ => HR.out w' e)).mono ?_
  rintro e_ w1 ⟨v_, rfl, HS_⟩
  clear HS
  obtain ⟨u, HS_⟩ := St.ex_ HS_
  obtain ⟨rfl, HS⟩ := St.and_ HS_
  clear HS_
  have HS : St w S w1 [HP.row kWd 28 u []] := HS
  go_wp2_with fail
  refine (awake_fun.call (F := [HP.row kWd 28 u []]) HS (fun w' _ e _ => HR.out w' e)).mono ?_
  rintro e_ w2 ⟨rfl, HS_⟩
  clear HS 
  have HS : St w S w2 [HP.row kWd 28 u []] := HS_
  clear HS_
  go_wp2_with fail
  refine (awake_fun.call (F := [HP.row kWd 28 u []]) HS (fun w' _ e _ => HR.out w' e)).mono ?_
  rintro e_ w3 ⟨rfl, HS_⟩
  clear HS 
  have HS : St w S w3 [HP.row kWd 28 u []] := HS_
  clear HS_
  go_wp2_with fail
  go_ret
  exact ⟨rfl, HS.out 0⟩
set_option maxHeartbeats 16000000 in
set_option maxRecDepth 40000 in
theorem blanks_neg (s : ByteArray) (n : Int) (ws : List Wd) (hw : wordsP s.toList = (ws, 0, 0)) (hn : n < 0) : FunV Tryd.prog 4 #[.string s, .int .i64 n] Vars [] (.bool true) [] := by
  intro w S hS hR
  have HS := St.start hS
  have HR := Aside0.mk hR
  clear hS hR
  have huS := Tryd.underlying22
  have huW := Tryd.underlying28
  have H1 := Aside0.mk (words_call s ws 0 0 hw)
  clear hw
  go_enter Tryd.func4, Tryd.ntmps4
  go_wp2_with fail
  refine (H1.out.call (F := []) HS (fun w' _ e _ => HR.out w' e)).mono ?_
  rintro e_ w1 ⟨v_, rfl, HS_⟩
  clear HS
  obtain ⟨u, HS_⟩ := St.ex_ HS_
  obtain ⟨rfl, HS⟩ := St.and_ HS_
  clear HS_
  have HS : St w S w1 [HP.row kWd 28 u ws] := HS
  obtain ⟨A1, c1, rfl, hc1, -⟩ := St.row_C HS
  go_wp2_with fail
  refine (awake_fun.call (F := [HP.row kWd 28 (.slice A1 ws.length c1) ws]) HS (fun w' _ e _ => HR.out w' e)).mono ?_
  rintro e_ w2 ⟨rfl, HS_⟩
  clear HS 
  have HS : St w S w2 [HP.row kWd 28 (.slice A1 ws.length c1) ws] := HS_
  clear HS_
  go_wp2_with fail
  refine (awake_fun.call (F := [HP.row kWd 28 (.slice A1 ws.length c1) ws]) HS (fun w' _ e _ => HR.out w' e)).mono ?_
  rintro e_ w3 ⟨rfl, HS_⟩
  clear HS 
  have HS : St w S w3 [HP.row kWd 28 (.slice A1 ws.length c1) ws] := HS_
  clear HS_
  go_wp2_with fail
  go_ret
  exact ⟨rfl, HS.out 0⟩
set_option maxHeartbeats 16000000 in
set_option maxRecDepth 40000 in
theorem blanks_big (s : ByteArray) (n : Int) (ws : List Wd) (hw : wordsP s.toList = (ws, 0, 0)) (hn : 0 ≤ n) (hb : n > 3) : FunV Tryd.prog 4 #[.string s, .int .i64 n] Vars [] (.bool true) [] := by
  intro w S hS hR
  have HS := St.start hS
  have HR := Aside0.mk hR
  clear hS hR
  have huS := Tryd.underlying22
  have huW := Tryd.underlying28
  have H1 := Aside0.mk (words_call s ws 0 0 hw)
  clear hw
  have hn0 : ¬ n < 0 := by omega
  go_enter Tryd.func4, Tryd.ntmps4
  go_wp2_with fail
  refine (H1.out.call (F := []) HS (fun w' _ e _ => HR.out w' e)).mono ?_
  rintro e_ w1 ⟨v_, rfl, HS_⟩
  clear HS
  obtain ⟨u, HS_⟩ := St.ex_ HS_
  obtain ⟨rfl, HS⟩ := St.and_ HS_
  clear HS_
  have HS : St w S w1 [HP.row kWd 28 u ws] := HS
  obtain ⟨A1, c1, rfl, hc1, -⟩ := St.row_C HS
  go_wp2_with fail
  refine (awake_fun.call (F := [HP.row kWd 28 (.slice A1 ws.length c1) ws]) HS (fun w' _ e _ => HR.out w' e)).mono ?_
  rintro e_ w2 ⟨rfl, HS_⟩
  clear HS 
  have HS : St w S w2 [HP.row kWd 28 (.slice A1 ws.length c1) ws] := HS_
  clear HS_
  go_wp2_with fail
  refine (awake_fun.call (F := [HP.row kWd 28 (.slice A1 ws.length c1) ws]) HS (fun w' _ e _ => HR.out w' e)).mono ?_
  rintro e_ w3 ⟨rfl, HS_⟩
  clear HS 
  have HS : St w S w3 [HP.row kWd 28 (.slice A1 ws.length c1) ws] := HS_
  clear HS_
  go_wp2_with fail
  go_ret
  exact ⟨rfl, HS.out 0⟩
set_option maxHeartbeats 16000000 in
set_option maxRecDepth 40000 in
theorem blanks_ok (s : ByteArray) (k : Nat) (hk : k ≤ 3) (ws : List Wd) (h0 : 0 < ws.length) (hwl : ws.length ≤ 1025) (hw : wordsP s.toList = (ws, 0, 0)) (ht : ∀ x ∈ ws, x.t.length ≤ 1024 ∧ (x.k = 3 → x.t.length ≤ 64)) (pre : List UInt8) (hpre : pre = ([9, 32, 10, 32] : List UInt8).take (k + 1)) (hRd : (rend pre ws).length ≤ 1024 → ∃ ms : List Wd, wordsP (rend pre ws) = (ms, 0, 0) ∧ ms.map (fun w => (w.k, w.t, w.n)) = ws.map (fun w => (w.k, w.t, w.n))) : FunV Tryd.prog 4 #[.string s, .int .i64 (k : Int)] Vars [] (.bool true) [] := by
  intro w S hS hR
  have HS := St.start hS
  have HR := Aside0.mk hR
  clear hS hR
  have huS := Tryd.underlying22
  have huW := Tryd.underlying28
  have H1 := Aside0.mk (words_call s ws 0 0 hw)
  have HT := Aside0.mk ht
  have HRd := Aside0.mk hRd
  have hk0 : (0 : Int) ≤ (k : Int) := by omega
  have hk3 : (k : Int) ≤ 3 := by omega
  have hwk : IntKind.i64.wrap ((k : Int) + 1) = (k : Int) + 1 := IntWalk.i64_in _ (by omega)
  have hk4 : (k : Int) + 1 ≤ 4 := by omega
  have hk41 : (0 : Int) ≤ (k : Int) + 1 := by omega
  have hkt : ((k : Int) + 1).toNat = k + 1 := by omega
  have hpl : pre.length ≤ 4 := by rw [hpre, List.length_take]; simp; omega
  obtain ⟨pb, hpb⟩ : ∃ b, (⟨#[9, 32, 10, 32]⟩ : ByteArray).extract 0 (k + 1) = b := ⟨_, rfl⟩
  have hpbl : pb.toList = pre := by
    rw [← hpb, Go.Lib.extract_toList, hpre]
    rfl
  have hpbs : pb.size ≤ 4 := by rw [← size_toList, hpbl]; exact hpl
  have HPB := Aside0.mk hpbl
  clear hw ht hRd hpre hpbl
  go_enter Tryd.func4, Tryd.ntmps4
  go_wp2_with fail
  refine (H1.out.call (F := []) HS (fun w' _ e _ => HR.out w' e)).mono ?_
  rintro e_ w1 ⟨v_, rfl, HS_⟩
  clear HS
  obtain ⟨u, HS_⟩ := St.ex_ HS_
  obtain ⟨rfl, HS⟩ := St.and_ HS_
  clear HS_
  have HS : St w S w1 [HP.row kWd 28 u ws] := HS
  obtain ⟨g1, c1, rfl⟩ := St.row_form HS h0
  have hlc : ws.length ≤ c1 := (St.row_reads HS).2.1
  have HS : St w S w1 [HP.row kWd 28 (.slice (some ⟨g1, 0, none⟩) ws.length c1) ws] := HS
  go_wp2_with fail
  refine (awake_fun.call (F := [HP.row kWd 28 (.slice (some ⟨g1, 0, none⟩) ws.length c1) ws]) HS (fun w' _ e _ => HR.out w' e)).mono ?_
  rintro e_ w2 ⟨rfl, HS_⟩
  clear HS 
  have HS : St w S w2 [HP.row kWd 28 (.slice (some ⟨g1, 0, none⟩) ws.length c1) ws] := HS_
  clear HS_
  go_wp2_with fail
  go_loopw [8, 40] (fun v8 v40 w' => ∃ (i : Nat) (tb : ByteArray), i ≤ ws.length ∧ v40 = .int .i64 i ∧ v8 = .string tb ∧ Aside0 (tb.toList = rend pre (ws.take i)) ∧ St w S w' [HP.row kWd 28 (.slice (some ⟨g1, 0, none⟩) ws.length c1) ws]) (fun _ v40 _ => ws.length - (intOf v40).toNat)
  case atStart => exact ⟨0, ⟨#[]⟩, Nat.zero_le _, rfl, rfl, ⟨by rw [toList_eq]; rfl⟩, HS⟩
  case round =>
    clear HS
    obtain ⟨i, tb, hi, rfl, rfl, HB, HS⟩ := hrel
    have hi0 : (0 : Int) ≤ (i : Int) := by omega
    have htb : tb.size ≤ 2111500 := by
      have h1 := rend_le pre hpl 1024 (by omega) (ws.take i) (fun x hx => (HT.out x (List.mem_of_mem_take hx)).1)
      rw [← HB.out, size_toList, List.length_take] at h1
      omega
    by_cases hlt : i < ws.length
    · have hw1 : IntKind.i64.wrap ((i : Int) + 1) = ((i + 1 : Nat) : Int) := by rw [IntWalk.i64_in _ (by omega)]; omega
      have hltI : (i : Int) < (ws.length : Int) := by omega
      have htk : ws.take (i + 1) = ws.take i ++ [ws[i]] := List.take_succ_eq_append_getElem hlt
      have htl := HT.out ws[i] (List.getElem_mem hlt)
      have hwt := wrt_le ws[i] 1024 htl.1
      have HC := Aside0.mk (fun (w' : World) (F : List HP) (h : St w S w' (HP.row kWd 28 (.slice (some ⟨g1, 0, none⟩) ws.length c1) ws :: F)) => wd_cells h i hlt)
      obtain ⟨x, hx⟩ : ∃ x, ws[i] = x := ⟨_, rfl⟩
      rw [hx] at HC htk htl hwt
      have HTK := Aside0.mk htk
      obtain ⟨c0, c1', c2, c3⟩ := HC.out wr [] HS
      obtain ⟨tx, htx⟩ : ∃ t, ba x.t = t := ⟨_, rfl⟩
      rw [htx] at HC c2
      have htxs : tx.size ≤ 1024 := by rw [← htx, ba_size]; exact htl.1
      have htx3 : x.k = 3 → tx.size ≤ 64 := fun h => by rw [← htx, ba_size]; exact htl.2 h
      have htxl : tx.toList = x.t := by rw [← htx, ba_toList]
      have HTX := Aside0.mk htxl
      have HTX3 := Aside0.mk htx3
      have hs1 : tb.size + pb.size ≤ 9223372036854775807 := by omega
      have hz1 := size_app tb pb
      have HZ1 := Aside0.mk hz1
      clear hx htk htl htx htxl htx3 hz1
      by_cases hk3' : x.k = 3
      · have hb3 : (x.k == 3) = true := by rw [hk3']; rfl
        have hq := Val.dbl_le tx.toList
        have hq2 := HTX3.out hk3'
        obtain ⟨qb, hqb⟩ : ∃ b, ba (quote tx.toList) = b := ⟨_, rfl⟩
        have hqs : qb.size ≤ 200 := by
          rw [← hqb, ba_size]
          rw [size_toList] at hq
          simp [quote]
          omega
        have HPR := Aside0.mk (printT_fun tx hq2)
        have hfin := Aside0.mk (show (tb ++ pb ++ qb ++ (⟨#[32]⟩ : ByteArray)).toList = rend pre (ws.take (i + 1)) by
          rw [HTK.out, rend_snoc, app_toList, app_toList, app_toList, HB.out, HPB.out, ← hqb, ba_toList, HTX.out]
          unfold wrt
          rw [if_pos hk3', toList_eq])
        rw [hqb] at HPR
        have hs2 : tb.size + pb.size + qb.size ≤ 9223372036854775807 := by omega
        have hs3 : tb.size + pb.size + qb.size + 1 ≤ 9223372036854775807 := by omega
        clear hq hqb hk3'
        go_wp2_with (first
          | ((with_reducible refine gate_dst (N := 10) rfl ?_); refine ev_box ?hg (N := 10) ?hd (cs := [.int .i64 0, .int .i64 0, .string ⟨#[]⟩, .int .i64 0]) (t := 28) HS ?hr ?_; (case hd => rfl); (case hg => rfl); (case hr => first | (go_simp; done) | (go_simp; rfl)); intro g7 w7 HS_ hg_; clear HS c0 c1' c2 c3; have HS := HS_; clear HS_)
          | ((with_reducible refine gate_ (.store 28 (.tmp 10) (.tmp 43)) rfl ?_); refine ev_store rfl rfl 28 (.tmp 10) (.tmp 43) rfl HS (g := g7) (j := 0) rfl rfl (seg := [.int .i64 x.k, .int .i64 (x.a : Int), .string tx, .int .i64 x.n]) rfl ?ht rfl ?hf ?_; (case ht => kernel_rfl); (case hf => first | (simp; done) | (simp [splice]; done)); intro w8 HS_; clear HS; have HS : St w S w8 [HP.obj g7 28 [.int .i64 x.k, .int .i64 (x.a : Int), .string tx, .int .i64 x.n], HP.row kWd 28 (.slice (some ⟨g1, 0, none⟩) ws.length c1) ws] := HS_; clear HS_; have c0 := HS.cell 0; have c2 := HS.cell 2)
          | (go_at_call 8; refine (HPR.out _).mono ?_; rintro e_ w9 ⟨rfl, hb9⟩; have HS := HS.later hb9; clear c0 c2 hb9))
        all_goals
          go_roundw
          case rel => exact ⟨i + 1, tb ++ pb ++ qb ++ (⟨#[32]⟩ : ByteArray), by omega, by go_num, rfl, hfin, HS.out 0⟩
          case measure => simp [intOf]; omega
      · have hb3 : (x.k == 3) = false := by rw [beq_eq_false_iff_ne]; exact hk3'
        have hfin := Aside0.mk (show (tb ++ pb ++ tx ++ (⟨#[32]⟩ : ByteArray)).toList = rend pre (ws.take (i + 1)) by
          rw [HTK.out, rend_snoc, app_toList, app_toList, app_toList, HB.out, HPB.out, HTX.out]
          unfold wrt
          rw [if_neg hk3', toList_eq])
        have hs2 : tb.size + pb.size + tx.size ≤ 9223372036854775807 := by omega
        have hs3 : tb.size + pb.size + tx.size + 1 ≤ 9223372036854775807 := by omega
        clear hk3'
        go_wp2_with (first
          | ((with_reducible refine gate_dst (N := 10) rfl ?_); refine ev_box ?hg (N := 10) ?hd (cs := [.int .i64 0, .int .i64 0, .string ⟨#[]⟩, .int .i64 0]) (t := 28) HS ?hr ?_; (case hd => rfl); (case hg => rfl); (case hr => first | (go_simp; done) | (go_simp; rfl)); intro g7 w7 HS_ hg_; clear HS c0 c1' c2 c3; have HS := HS_; clear HS_)
          | ((with_reducible refine gate_ (.store 28 (.tmp 10) (.tmp 43)) rfl ?_); refine ev_store rfl rfl 28 (.tmp 10) (.tmp 43) rfl HS (g := g7) (j := 0) rfl rfl (seg := [.int .i64 x.k, .int .i64 (x.a : Int), .string tx, .int .i64 x.n]) rfl ?ht rfl ?hf ?_; (case ht => kernel_rfl); (case hf => first | (simp; done) | (simp [splice]; done)); intro w8 HS_; clear HS; have HS : St w S w8 [HP.obj g7 28 [.int .i64 x.k, .int .i64 (x.a : Int), .string tx, .int .i64 x.n], HP.row kWd 28 (.slice (some ⟨g1, 0, none⟩) ws.length c1) ws] := HS_; clear HS_; have c0 := HS.cell 0; have c2 := HS.cell 2))
        all_goals
          go_roundw
          case rel => exact ⟨i + 1, tb ++ pb ++ tx ++ (⟨#[32]⟩ : ByteArray), by omega, by go_num, rfl, hfin, HS.out 0⟩
          case measure => simp [intOf]; omega
    · have hltI : ¬ (i : Int) < (ws.length : Int) := by omega
      have htk : ws.take i = ws := List.take_of_length_le (by omega)
      rw [htk] at HB
      clear htk
      by_cases hbig : tb.size > 1024
      · have hbI : (tb.size : Int) > 1024 := by omega
        clear HB
        go_wp2_with fail
        go_ret
        exact ⟨rfl, HS.out 0⟩
      · have hbI : ¬ (tb.size : Int) > 1024 := by omega
        obtain ⟨ms, hms, hmm⟩ := HRd.out (by rw [← HB.out, size_toList]; omega)
        rw [← HB.out] at hms
        have H2 := Aside0.mk (words_call tb ms 0 0 hms)
        have hml : ms.length = ws.length := by simpa using congrArg List.length hmm
        have hml2 : ms.length ≤ 1025 := by omega
        have HML := Aside0.mk hml
        have HMM := Aside0.mk hmm
        clear hms hmm HB hml
        go_wp2_with fail
        refine (H2.out.call (F := [HP.row kWd 28 (.slice (some ⟨g1, 0, none⟩) ws.length c1) ws]) HS (fun w' _ e _ => HR.out w' e)).mono ?_
        rintro e_ w3 ⟨v_, rfl, HS_⟩
        clear HS
        obtain ⟨u2, HS_⟩ := St.ex_ HS_
        obtain ⟨rfl, HS⟩ := St.and_ HS_
        clear HS_
        have HS : St w S w3 [HP.row kWd 28 u2 ms, HP.row kWd 28 (.slice (some ⟨g1, 0, none⟩) ws.length c1) ws] := HS
        obtain ⟨g2, c2, rfl⟩ := St.row_form HS (by rw [HML.out]; exact h0)
        have hlc2 : ms.length ≤ c2 := (St.row_reads HS).2.1
        have HS : St w S w3 [HP.row kWd 28 (.slice (some ⟨g2, 0, none⟩) ms.length c2) ms, HP.row kWd 28 (.slice (some ⟨g1, 0, none⟩) ws.length c1) ws] := HS
        have hneq : ((ms.length : Int) != (ws.length : Int)) = false := by rw [HML.out]; simp
        have hneqb : ((ms.length : Int) == (ws.length : Int)) = true := by rw [HML.out]; simp
        have hneqn : (ms.length == ws.length) = true := by rw [HML.out]; simp
        have hneqp : (ms.length : Int) = (ws.length : Int) := by rw [HML.out]
        have HNE := Aside0.mk hneqp
        clear hneqp
        go_wp2_with fail
        go_loopw [90] (fun v90 w' => ∃ i : Nat, i ≤ ws.length ∧ v90 = .int .i64 i ∧ St w S w' [HP.row kWd 28 (.slice (some ⟨g2, 0, none⟩) ms.length c2) ms, HP.row kWd 28 (.slice (some ⟨g1, 0, none⟩) ws.length c1) ws]) (fun v90 _ => ws.length - (intOf v90).toNat)
        case atStart => exact ⟨0, Nat.zero_le _, rfl, HS⟩
        case round =>
          clear HS hltI hi hi0
          obtain ⟨j, hj, rfl, HS⟩ := hrel
          have hj0 : (0 : Int) ≤ (j : Int) := by omega
          by_cases hlt : j < ws.length
          · have hw1 : IntKind.i64.wrap ((j : Int) + 1) = ((j + 1 : Nat) : Int) := by rw [IntWalk.i64_in _ (by omega)]; omega
            have hltI : (j : Int) < (ws.length : Int) := by omega
            have hjm : j < ms.length := by rw [HML.out]; exact hlt
            have hjmI : (j : Int) < (ms.length : Int) := by omega
            have hsame := congrArg (fun l => l[j]?) HMM.out
            simp only [List.getElem?_map, List.getElem?_eq_getElem hjm, List.getElem?_eq_getElem hlt, Option.map_some, Option.some.injEq, Prod.mk.injEq] at hsame
            obtain ⟨e1, e2, e3⟩ := hsame
            have HCw := Aside0.mk (fun (w' : World) (h : St w S w' [HP.row kWd 28 (.slice (some ⟨g2, 0, none⟩) ms.length c2) ms, HP.row kWd 28 (.slice (some ⟨g1, 0, none⟩) ws.length c1) ws]) => wd_cells (h.mv 1) j hlt)
            have HCm := Aside0.mk (fun (w' : World) (h : St w S w' [HP.row kWd 28 (.slice (some ⟨g2, 0, none⟩) ms.length c2) ms, HP.row kWd 28 (.slice (some ⟨g1, 0, none⟩) ws.length c1) ws]) => wd_cells h j hjm)
            rw [e1, e2, e3] at HCm
            obtain ⟨xk, hxk⟩ : ∃ x, ws[j].k = x := ⟨_, rfl⟩
            obtain ⟨xt, hxt⟩ : ∃ x, ba ws[j].t = x := ⟨_, rfl⟩
            obtain ⟨xn, hxn⟩ : ∃ x, ws[j].n = x := ⟨_, rfl⟩
            rw [hxk, hxt, hxn] at HCm HCw
            clear e1 e2 e3 hxk hxt hxn
            go_wp2_with fail
            refine start_ (n := 37) (S := fun w' => w'.cell? ⟨g1, j * 4, none⟩ = some (.int .i64 xk) ∧ w'.cell? ⟨g1, j * 4 + 2, none⟩ = some (.string xt) ∧ w'.cell? ⟨g1, j * 4 + 3, none⟩ = some (.int .i64 xn) ∧ w'.cell? ⟨g2, j * 4, none⟩ = some (.int .i64 xk) ∧ w'.cell? ⟨g2, j * 4 + 2, none⟩ = some (.string xt) ∧ w'.cell? ⟨g2, j * 4 + 3, none⟩ = some (.int .i64 xn)) (ds := []) #[false, false, false, false, false, false, false, false, false, false, false, false, false, false, false, false, false, false, false, false, false, false, false, false, false, false, false, false, false, false, false, false, false, false, false, false, false] (by kernel_rfl) rfl rfl ⟨(HCw.out _ HS.drew).1, (HCw.out _ HS.drew).2.2.1, (HCw.out _ HS.drew).2.2.2, (HCm.out _ HS.drew).1, (HCm.out _ HS.drew).2.2.1, (HCm.out _ HS.drew).2.2.2⟩ (fun hHeld => ?_)
            refine pure_ (i := 0) (N := some 93) (v := ?_) (a' := ?_) #[true, false, false, false, false, false, false, false, false, false, false, false, false, false, false, false, false, false, false, false, false, false, false, false, false, false, false, false, false, false, false, false, false, false, false, false, false] rfl rfl (by kernel_rfl) (fun _ _ _ h => h) (Or.inl ⟨by rfl, ?_⟩) ?_ ?_
            rotate_left
            · intro w'
              go_simp
              with_reducible rfl
            rotate_left
            · simp only [Act.put, List.setIfInBounds_toArray, List.set_cons_zero, List.set_cons_succ, i64_w, i32_w]
              rfl
            refine pure_ (i := 1) (N := some 94) (v := ?_) (a' := ?_) #[true, true, false, false, false, false, false, false, false, false, false, false, false, false, false, false, false, false, false, false, false, false, false, false, false, false, false, false, false, false, false, false, false, false, false, false, false] rfl rfl (by kernel_rfl) (fun _ _ _ h => h) (Or.inl ⟨by rfl, ?_⟩) ?_ ?_
            rotate_left
            · intro w'
              go_simp
              with_reducible rfl
            rotate_left
            · simp only [Act.put, List.setIfInBounds_toArray, List.set_cons_zero, List.set_cons_succ, i64_w, i32_w]
              rfl
            refine pure_ (i := 2) (N := some 95) (v := ?_) (a' := ?_) #[true, true, true, false, false, false, false, false, false, false, false, false, false, false, false, false, false, false, false, false, false, false, false, false, false, false, false, false, false, false, false, false, false, false, false, false, false] rfl rfl (by kernel_rfl) (fun _ _ _ h => h) (Or.inl ⟨by rfl, ?_⟩) ?_ ?_
            rotate_left
            · intro w'
              go_simp
              with_reducible rfl
            rotate_left
            · simp only [Act.put, List.setIfInBounds_toArray, List.set_cons_zero, List.set_cons_succ, i64_w, i32_w]
              rfl
            refine pure_ (i := 3) (N := some 96) (v := ?_) (a' := ?_) #[true, true, true, true, false, false, false, false, false, false, false, false, false, false, false, false, false, false, false, false, false, false, false, false, false, false, false, false, false, false, false, false, false, false, false, false, false] rfl rfl (by kernel_rfl) (fun _ _ _ h => h) (Or.inl ⟨by rfl, ?_⟩) ?_ ?_
            rotate_left
            · intro w'
              go_simp
              with_reducible rfl
            rotate_left
            · simp only [Act.put, List.setIfInBounds_toArray, List.set_cons_zero, List.set_cons_succ, i64_w, i32_w]
              rfl
            refine pure_ (i := 5) (N := some 98) (v := ?_) (a' := ?_) #[true, true, true, true, false, true, false, false, false, false, false, false, false, false, false, false, false, false, false, false, false, false, false, false, false, false, false, false, false, false, false, false, false, false, false, false, false] rfl rfl (by kernel_rfl) (fun _ _ _ h => h) (Or.inl ⟨by rfl, ?_⟩) ?_ ?_
            rotate_left
            · intro w'
              go_simp
              with_reducible rfl
            rotate_left
            · simp only [Act.put, List.setIfInBounds_toArray, List.set_cons_zero, List.set_cons_succ, i64_w, i32_w]
              rfl
            refine pure_ (i := 6) (N := some 99) (v := ?_) (a' := ?_) #[true, true, true, true, false, true, true, false, false, false, false, false, false, false, false, false, false, false, false, false, false, false, false, false, false, false, false, false, false, false, false, false, false, false, false, false, false] rfl rfl (by kernel_rfl) (fun _ _ _ h => h) (Or.inl ⟨by rfl, ?_⟩) ?_ ?_
            rotate_left
            · intro w'
              go_simp
              with_reducible rfl
            rotate_left
            · simp only [Act.put, List.setIfInBounds_toArray, List.set_cons_zero, List.set_cons_succ, i64_w, i32_w]
              rfl
            refine pure_ (i := 7) (N := some 100) (v := ?_) (a' := ?_) #[true, true, true, true, false, true, true, true, false, false, false, false, false, false, false, false, false, false, false, false, false, false, false, false, false, false, false, false, false, false, false, false, false, false, false, false, false] rfl rfl (by kernel_rfl) (fun _ _ _ h => h) (Or.inl ⟨by rfl, ?_⟩) ?_ ?_
            rotate_left
            · intro w'
              go_simp
              with_reducible rfl
            rotate_left
            · simp only [Act.put, List.setIfInBounds_toArray, List.set_cons_zero, List.set_cons_succ, i64_w, i32_w]
              rfl
            refine pure_ (i := 8) (N := some 101) (v := ?_) (a' := ?_) #[true, true, true, true, false, true, true, true, true, false, false, false, false, false, false, false, false, false, false, false, false, false, false, false, false, false, false, false, false, false, false, false, false, false, false, false, false] rfl rfl (by kernel_rfl) (fun _ _ _ h => h) (Or.inl ⟨by rfl, ?_⟩) ?_ ?_
            rotate_left
            · intro w'
              go_simp
              with_reducible rfl
            rotate_left
            · simp only [Act.put, List.setIfInBounds_toArray, List.set_cons_zero, List.set_cons_succ, i64_w, i32_w]
              rfl
            refine take_ (i := 4) (N := some 97) (v := ?_) (a' := ?_) #[true, true, true, true, true, true, true, true, true, false, false, false, false, false, false, false, false, false, false, false, false, false, false, false, false, false, false, false, false, false, false, false, false, false, false, false, false] rfl rfl (by kernel_rfl) (fun _ _ _ h => h) (Or.inl ⟨by rfl, ?_⟩) hHeld ?_ ?_
            rotate_left
            · rintro w' ⟨s0, s1, s2, s3, s4, s5⟩
              go_simp
              with_reducible rfl
            rotate_left
            · simp only [Act.put, List.setIfInBounds_toArray, List.set_cons_zero, List.set_cons_succ, i64_w, i32_w]
              rfl
            refine take_ (i := 9) (N := some 102) (v := ?_) (a' := ?_) #[true, true, true, true, true, true, true, true, true, true, false, false, false, false, false, false, false, false, false, false, false, false, false, false, false, false, false, false, false, false, false, false, false, false, false, false, false] rfl rfl (by kernel_rfl) (fun _ _ _ h => h) (Or.inl ⟨by rfl, ?_⟩) hHeld ?_ ?_
            rotate_left
            · rintro w' ⟨s0, s1, s2, s3, s4, s5⟩
              go_simp
              with_reducible rfl
            rotate_left
            · simp only [Act.put, List.setIfInBounds_toArray, List.set_cons_zero, List.set_cons_succ, i64_w, i32_w]
              rfl
            refine pure_ (i := 10) (N := some 103) (v := ?_) (a' := ?_) #[true, true, true, true, true, true, true, true, true, true, true, false, false, false, false, false, false, false, false, false, false, false, false, false, false, false, false, false, false, false, false, false, false, false, false, false, false] rfl rfl (by kernel_rfl) (fun _ _ _ h => h) (Or.inl ⟨by rfl, ?_⟩) ?_ ?_
            rotate_left
            · intro w'
              go_simp
              with_reducible rfl
            rotate_left
            · simp only [Act.put, List.setIfInBounds_toArray, List.set_cons_zero, List.set_cons_succ, i64_w, i32_w]
              rfl
            refine pure_ (i := 11) (N := some 104) (v := ?_) (a' := ?_) #[true, true, true, true, true, true, true, true, true, true, true, true, false, false, false, false, false, false, false, false, false, false, false, false, false, false, false, false, false, false, false, false, false, false, false, false, false] rfl rfl (by kernel_rfl) (fun _ _ _ h => h) (Or.inl ⟨by rfl, ?_⟩) ?_ ?_
            rotate_left
            · intro w'
              go_simp
              with_reducible rfl
            rotate_left
            · simp only [Act.put, List.setIfInBounds_toArray, List.set_cons_zero, List.set_cons_succ, i64_w, i32_w]
              rfl
            refine pure_ (i := 12) (N := some 105) (v := ?_) (a' := ?_) #[true, true, true, true, true, true, true, true, true, true, true, true, true, false, false, false, false, false, false, false, false, false, false, false, false, false, false, false, false, false, false, false, false, false, false, false, false] rfl rfl (by kernel_rfl) (fun _ _ _ h => h) (Or.inl ⟨by rfl, ?_⟩) ?_ ?_
            rotate_left
            · intro w'
              go_simp
              with_reducible rfl
            rotate_left
            · simp only [Act.put, List.setIfInBounds_toArray, List.set_cons_zero, List.set_cons_succ, i64_w, i32_w]
              rfl
            refine pure_ (i := 13) (N := some 106) (v := ?_) (a' := ?_) #[true, true, true, true, true, true, true, true, true, true, true, true, true, true, false, false, false, false, false, false, false, false, false, false, false, false, false, false, false, false, false, false, false, false, false, false, false] rfl rfl (by kernel_rfl) (fun _ _ _ h => h) (Or.inl ⟨by rfl, ?_⟩) ?_ ?_
            rotate_left
            · intro w'
              go_simp
              with_reducible rfl
            rotate_left
            · simp only [Act.put, List.setIfInBounds_toArray, List.set_cons_zero, List.set_cons_succ, i64_w, i32_w]
              rfl
            refine pure_ (i := 14) (N := some 107) (v := ?_) (a' := ?_) #[true, true, true, true, true, true, true, true, true, true, true, true, true, true, true, false, false, false, false, false, false, false, false, false, false, false, false, false, false, false, false, false, false, false, false, false, false] rfl rfl (by kernel_rfl) (fun _ _ _ h => h) (Or.inl ⟨by rfl, ?_⟩) ?_ ?_
            rotate_left
            · intro w'
              go_simp
              with_reducible rfl
            rotate_left
            · simp only [Act.put, List.setIfInBounds_toArray, List.set_cons_zero, List.set_cons_succ, i64_w, i32_w]
              rfl
            refine pure_ (i := 15) (N := some 108) (v := ?_) (a' := ?_) #[true, true, true, true, true, true, true, true, true, true, true, true, true, true, true, true, false, false, false, false, false, false, false, false, false, false, false, false, false, false, false, false, false, false, false, false, false] rfl rfl (by kernel_rfl) (fun _ _ _ h => h) (Or.inl ⟨by rfl, ?_⟩) ?_ ?_
            rotate_left
            · intro w'
              go_simp
              with_reducible rfl
            rotate_left
            · simp only [Act.put, List.setIfInBounds_toArray, List.set_cons_zero, List.set_cons_succ, i64_w, i32_w]
              rfl
            refine pure_ (i := 17) (N := some 110) (v := ?_) (a' := ?_) #[true, true, true, true, true, true, true, true, true, true, true, true, true, true, true, true, false, true, false, false, false, false, false, false, false, false, false, false, false, false, false, false, false, false, false, false, false] rfl rfl (by kernel_rfl) (fun _ _ _ h => h) (Or.inl ⟨by rfl, ?_⟩) ?_ ?_
            rotate_left
            · intro w'
              go_simp
              with_reducible rfl
            rotate_left
            · simp only [Act.put, List.setIfInBounds_toArray, List.set_cons_zero, List.set_cons_succ, i64_w, i32_w]
              rfl
            refine pure_ (i := 18) (N := some 111) (v := ?_) (a' := ?_) #[true, true, true, true, true, true, true, true, true, true, true, true, true, true, true, true, false, true, true, false, false, false, false, false, false, false, false, false, false, false, false, false, false, false, false, false, false] rfl rfl (by kernel_rfl) (fun _ _ _ h => h) (Or.inl ⟨by rfl, ?_⟩) ?_ ?_
            rotate_left
            · intro w'
              go_simp
              with_reducible rfl
            rotate_left
            · simp only [Act.put, List.setIfInBounds_toArray, List.set_cons_zero, List.set_cons_succ, i64_w, i32_w]
              rfl
            refine pure_ (i := 19) (N := some 112) (v := ?_) (a' := ?_) #[true, true, true, true, true, true, true, true, true, true, true, true, true, true, true, true, false, true, true, true, false, false, false, false, false, false, false, false, false, false, false, false, false, false, false, false, false] rfl rfl (by kernel_rfl) (fun _ _ _ h => h) (Or.inl ⟨by rfl, ?_⟩) ?_ ?_
            rotate_left
            · intro w'
              go_simp
              with_reducible rfl
            rotate_left
            · simp only [Act.put, List.setIfInBounds_toArray, List.set_cons_zero, List.set_cons_succ, i64_w, i32_w]
              rfl
            refine pure_ (i := 20) (N := some 113) (v := ?_) (a' := ?_) #[true, true, true, true, true, true, true, true, true, true, true, true, true, true, true, true, false, true, true, true, true, false, false, false, false, false, false, false, false, false, false, false, false, false, false, false, false] rfl rfl (by kernel_rfl) (fun _ _ _ h => h) (Or.inl ⟨by rfl, ?_⟩) ?_ ?_
            rotate_left
            · intro w'
              go_simp
              with_reducible rfl
            rotate_left
            · simp only [Act.put, List.setIfInBounds_toArray, List.set_cons_zero, List.set_cons_succ, i64_w, i32_w]
              rfl
            refine take_ (i := 16) (N := some 109) (v := ?_) (a' := ?_) #[true, true, true, true, true, true, true, true, true, true, true, true, true, true, true, true, true, true, true, true, true, false, false, false, false, false, false, false, false, false, false, false, false, false, false, false, false] rfl rfl (by kernel_rfl) (fun _ _ _ h => h) (Or.inl ⟨by rfl, ?_⟩) hHeld ?_ ?_
            rotate_left
            · rintro w' ⟨s0, s1, s2, s3, s4, s5⟩
              go_simp
              with_reducible rfl
            rotate_left
            · simp only [Act.put, List.setIfInBounds_toArray, List.set_cons_zero, List.set_cons_succ, i64_w, i32_w]
              rfl
            refine take_ (i := 21) (N := some 114) (v := ?_) (a' := ?_) #[true, true, true, true, true, true, true, true, true, true, true, true, true, true, true, true, true, true, true, true, true, true, false, false, false, false, false, false, false, false, false, false, false, false, false, false, false] rfl rfl (by kernel_rfl) (fun _ _ _ h => h) (Or.inl ⟨by rfl, ?_⟩) hHeld ?_ ?_
            rotate_left
            · rintro w' ⟨s0, s1, s2, s3, s4, s5⟩
              go_simp
              with_reducible rfl
            rotate_left
            · simp only [Act.put, List.setIfInBounds_toArray, List.set_cons_zero, List.set_cons_succ, i64_w, i32_w]
              rfl
            refine pure_ (i := 22) (N := some 115) (v := ?_) (a' := ?_) #[true, true, true, true, true, true, true, true, true, true, true, true, true, true, true, true, true, true, true, true, true, true, true, false, false, false, false, false, false, false, false, false, false, false, false, false, false] rfl rfl (by kernel_rfl) (fun _ _ _ h => h) (Or.inl ⟨by rfl, ?_⟩) ?_ ?_
            rotate_left
            · intro w'
              go_simp
              with_reducible rfl
            rotate_left
            · simp only [Act.put, List.setIfInBounds_toArray, List.set_cons_zero, List.set_cons_succ, i64_w, i32_w]
              rfl
            refine pure_ (i := 23) (N := some 116) (v := ?_) (a' := ?_) #[true, true, true, true, true, true, true, true, true, true, true, true, true, true, true, true, true, true, true, true, true, true, true, true, false, false, false, false, false, false, false, false, false, false, false, false, false] rfl rfl (by kernel_rfl) (fun _ _ _ h => h) (Or.inl ⟨by rfl, ?_⟩) ?_ ?_
            rotate_left
            · intro w'
              go_simp
              with_reducible rfl
            rotate_left
            · simp only [Act.put, List.setIfInBounds_toArray, List.set_cons_zero, List.set_cons_succ, i64_w, i32_w]
              rfl
            refine pure_ (i := 24) (N := some 117) (v := ?_) (a' := ?_) #[true, true, true, true, true, true, true, true, true, true, true, true, true, true, true, true, true, true, true, true, true, true, true, true, true, false, false, false, false, false, false, false, false, false, false, false, false] rfl rfl (by kernel_rfl) (fun _ _ _ h => h) (Or.inl ⟨by rfl, ?_⟩) ?_ ?_
            rotate_left
            · intro w'
              go_simp
              with_reducible rfl
            rotate_left
            · simp only [Act.put, List.setIfInBounds_toArray, List.set_cons_zero, List.set_cons_succ, i64_w, i32_w]
              rfl
            refine pure_ (i := 25) (N := some 118) (v := ?_) (a' := ?_) #[true, true, true, true, true, true, true, true, true, true, true, true, true, true, true, true, true, true, true, true, true, true, true, true, true, true, false, false, false, false, false, false, false, false, false, false, false] rfl rfl (by kernel_rfl) (fun _ _ _ h => h) (Or.inl ⟨by rfl, ?_⟩) ?_ ?_
            rotate_left
            · intro w'
              go_simp
              with_reducible rfl
            rotate_left
            · simp only [Act.put, List.setIfInBounds_toArray, List.set_cons_zero, List.set_cons_succ, i64_w, i32_w]
              rfl
            refine pure_ (i := 26) (N := some 119) (v := ?_) (a' := ?_) #[true, true, true, true, true, true, true, true, true, true, true, true, true, true, true, true, true, true, true, true, true, true, true, true, true, true, true, false, false, false, false, false, false, false, false, false, false] rfl rfl (by kernel_rfl) (fun _ _ _ h => h) (Or.inl ⟨by rfl, ?_⟩) ?_ ?_
            rotate_left
            · intro w'
              go_simp
              with_reducible rfl
            rotate_left
            · simp only [Act.put, List.setIfInBounds_toArray, List.set_cons_zero, List.set_cons_succ, i64_w, i32_w]
              rfl
            refine pure_ (i := 27) (N := some 120) (v := ?_) (a' := ?_) #[true, true, true, true, true, true, true, true, true, true, true, true, true, true, true, true, true, true, true, true, true, true, true, true, true, true, true, true, false, false, false, false, false, false, false, false, false] rfl rfl (by kernel_rfl) (fun _ _ _ h => h) (Or.inl ⟨by rfl, ?_⟩) ?_ ?_
            rotate_left
            · intro w'
              go_simp
              with_reducible rfl
            rotate_left
            · simp only [Act.put, List.setIfInBounds_toArray, List.set_cons_zero, List.set_cons_succ, i64_w, i32_w]
              rfl
            refine pure_ (i := 28) (N := some 121) (v := ?_) (a' := ?_) #[true, true, true, true, true, true, true, true, true, true, true, true, true, true, true, true, true, true, true, true, true, true, true, true, true, true, true, true, true, false, false, false, false, false, false, false, false] rfl rfl (by kernel_rfl) (fun _ _ _ h => h) (Or.inl ⟨by rfl, ?_⟩) ?_ ?_
            rotate_left
            · intro w'
              go_simp
              with_reducible rfl
            rotate_left
            · simp only [Act.put, List.setIfInBounds_toArray, List.set_cons_zero, List.set_cons_succ, i64_w, i32_w]
              rfl
            refine pure_ (i := 30) (N := some 123) (v := ?_) (a' := ?_) #[true, true, true, true, true, true, true, true, true, true, true, true, true, true, true, true, true, true, true, true, true, true, true, true, true, true, true, true, true, false, true, false, false, false, false, false, false] rfl rfl (by kernel_rfl) (fun _ _ _ h => h) (Or.inl ⟨by rfl, ?_⟩) ?_ ?_
            rotate_left
            · intro w'
              go_simp
              with_reducible rfl
            rotate_left
            · simp only [Act.put, List.setIfInBounds_toArray, List.set_cons_zero, List.set_cons_succ, i64_w, i32_w]
              rfl
            refine pure_ (i := 31) (N := some 124) (v := ?_) (a' := ?_) #[true, true, true, true, true, true, true, true, true, true, true, true, true, true, true, true, true, true, true, true, true, true, true, true, true, true, true, true, true, false, true, true, false, false, false, false, false] rfl rfl (by kernel_rfl) (fun _ _ _ h => h) (Or.inl ⟨by rfl, ?_⟩) ?_ ?_
            rotate_left
            · intro w'
              go_simp
              with_reducible rfl
            rotate_left
            · simp only [Act.put, List.setIfInBounds_toArray, List.set_cons_zero, List.set_cons_succ, i64_w, i32_w]
              rfl
            refine pure_ (i := 32) (N := some 125) (v := ?_) (a' := ?_) #[true, true, true, true, true, true, true, true, true, true, true, true, true, true, true, true, true, true, true, true, true, true, true, true, true, true, true, true, true, false, true, true, true, false, false, false, false] rfl rfl (by kernel_rfl) (fun _ _ _ h => h) (Or.inl ⟨by rfl, ?_⟩) ?_ ?_
            rotate_left
            · intro w'
              go_simp
              with_reducible rfl
            rotate_left
            · simp only [Act.put, List.setIfInBounds_toArray, List.set_cons_zero, List.set_cons_succ, i64_w, i32_w]
              rfl
            refine pure_ (i := 33) (N := some 126) (v := ?_) (a' := ?_) #[true, true, true, true, true, true, true, true, true, true, true, true, true, true, true, true, true, true, true, true, true, true, true, true, true, true, true, true, true, false, true, true, true, true, false, false, false] rfl rfl (by kernel_rfl) (fun _ _ _ h => h) (Or.inl ⟨by rfl, ?_⟩) ?_ ?_
            rotate_left
            · intro w'
              go_simp
              with_reducible rfl
            rotate_left
            · simp only [Act.put, List.setIfInBounds_toArray, List.set_cons_zero, List.set_cons_succ, i64_w, i32_w]
              rfl
            refine take_ (i := 29) (N := some 122) (v := ?_) (a' := ?_) #[true, true, true, true, true, true, true, true, true, true, true, true, true, true, true, true, true, true, true, true, true, true, true, true, true, true, true, true, true, true, true, true, true, true, false, false, false] rfl rfl (by kernel_rfl) (fun _ _ _ h => h) (Or.inl ⟨by rfl, ?_⟩) hHeld ?_ ?_
            rotate_left
            · rintro w' ⟨s0, s1, s2, s3, s4, s5⟩
              go_simp
              with_reducible rfl
            rotate_left
            · simp only [Act.put, List.setIfInBounds_toArray, List.set_cons_zero, List.set_cons_succ, i64_w, i32_w]
              rfl
            refine take_ (i := 34) (N := some 127) (v := ?_) (a' := ?_) #[true, true, true, true, true, true, true, true, true, true, true, true, true, true, true, true, true, true, true, true, true, true, true, true, true, true, true, true, true, true, true, true, true, true, true, false, false] rfl rfl (by kernel_rfl) (fun _ _ _ h => h) (Or.inl ⟨by rfl, ?_⟩) hHeld ?_ ?_
            rotate_left
            · rintro w' ⟨s0, s1, s2, s3, s4, s5⟩
              go_simp
              with_reducible rfl
            rotate_left
            · simp only [Act.put, List.setIfInBounds_toArray, List.set_cons_zero, List.set_cons_succ, i64_w, i32_w]
              rfl
            refine pure_ (i := 35) (N := some 128) (v := ?_) (a' := ?_) #[true, true, true, true, true, true, true, true, true, true, true, true, true, true, true, true, true, true, true, true, true, true, true, true, true, true, true, true, true, true, true, true, true, true, true, true, false] rfl rfl (by kernel_rfl) (fun _ _ _ h => h) (Or.inl ⟨by rfl, ?_⟩) ?_ ?_
            rotate_left
            · intro w'
              go_simp
              with_reducible rfl
            rotate_left
            · simp only [Act.put, List.setIfInBounds_toArray, List.set_cons_zero, List.set_cons_succ, i64_w, i32_w]
              rfl
            refine pure_ (i := 36) (N := some 129) (v := ?_) (a' := ?_) #[true, true, true, true, true, true, true, true, true, true, true, true, true, true, true, true, true, true, true, true, true, true, true, true, true, true, true, true, true, true, true, true, true, true, true, true, true] rfl rfl (by kernel_rfl) (fun _ _ _ h => h) (Or.inl ⟨by rfl, ?_⟩) ?_ ?_
            rotate_left
            · intro w'
              go_simp
              with_reducible rfl
            rotate_left
            · simp only [Act.put, List.setIfInBounds_toArray, List.set_cons_zero, List.set_cons_succ, i64_w, i32_w]
              rfl
            refine done_ (by kernel_rfl) ?_
            clear hHeld
            replace HS := HS.drew
            go_wp2_with fail
            go_roundw
            case rel => exact ⟨j + 1, by omega, by go_num, HS⟩
            case measure => simp [intOf]; omega
          · have hltI : ¬ (j : Int) < (ws.length : Int) := by omega
            go_wp2_with fail
            go_ret
            exact ⟨rfl, (HS.out 0).out 0⟩
end Go.Proofs.YtkjfecpfjfkpnaaDoor.Lex
