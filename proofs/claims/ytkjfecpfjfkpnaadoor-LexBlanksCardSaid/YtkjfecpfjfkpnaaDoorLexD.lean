/- Layer 17: Words, walked. -/
import Derived.Test.YtkjfecpfjfkpnaaDoorLexK
namespace Go.Proofs.YtkjfecpfjfkpnaaDoor.Lex
open Go.Lib (parseIntB)
open Go.RowKit Go.Proofs.YtkjfecpfjfkpnaaDoorW.PrintWords Go.Proofs.YtkjfecpfjfkpnaaDoorW.PrintLast Go.Proofs.YtkjfecpfjfkpnaaDoorW.PrintMore Go.Proofs.YtkjfecpfjfkpnaaDoor.Sl Go.Proofs.YtkjfecpfjfkpnaaDoor.Str
open Go.Proofs.YtkjfecpfjfkpnaaDoor.Val (isDig)
set_option linter.unusedVariables false
set_option linter.unusedSimpArgs false
theorem reps1_ {α : Type} {R : α → List Value → Prop} {n : Nat} {x : α} {cs : List Value} (h : R x cs) (hl : cs.length = n) : Reps R n [x] cs := (Reps.none R n).snoc h hl
/-- A word, as a row's element. -/
def kWd : Kd Wd := Kd.iso (Kd.pair (Kd.int .i64) (Kd.pair (Kd.int .i64) (Kd.pair Kd.string (Kd.int .i64)))) (fun x : Wd => (x.k, (x.a : Int), ba x.t, x.n))
theorem kWd_open {w : World} {x : Wd} {cs : List Value} (h : kWd.K w x cs) : cs = [.int .i64 x.k, .int .i64 (x.a : Int), .string (ba x.t), .int .i64 x.n] := by
  obtain ⟨_, _, rfl, rfl, ⟨_, _, rfl, rfl, ⟨_, _, rfl, rfl, rfl⟩⟩⟩ := h
  exact rfl
theorem kWd_mkM (w : World) (base : Nat) (ok : Nat → Prop) (x : Wd) : kWd.M w base ok x [.int .i64 x.k, .int .i64 (x.a : Int), .string (ba x.t), .int .i64 x.n] := ⟨[.int .i64 x.k], _, rfl, rfl, ⟨[.int .i64 (x.a : Int)], _, rfl, rfl, ⟨[.string (ba x.t)], _, rfl, rfl, rfl⟩⟩⟩
theorem infoWd : (Tryd.prog.info? 28).map (fun i => (i.zero, i.size, i.bytes)) = some (some (.agg #[.int .i64 0, .int .i64 0, .string ⟨#[]⟩, .int .i64 0]), 4, 40) := by kernel_rfl
theorem lex_len : ∀ (f off : Nat) (l : List UInt8) (ws : List Wd), lexF f off l = .ok ws → ws.length ≤ l.length + 1
  | 0, _, _, _, h => by simp [lexF] at h
  | f + 1, off, l, ws, h => by
    simp only [lexF] at h
    have hdl : (l.dropWhile isBl).length ≤ l.length := by rw [runL_drop]; simp
    cases hd : l.dropWhile isBl with
    | nil =>
      rw [hd] at h
      simp at h
      subst h
      simp
    | cons c r =>
      rw [hd] at h hdl
      cases ht : tok c r with
      | error e => simp [ht] at h
      | ok x =>
        obtain ⟨k, t, n, len⟩ := x
        have hl := tok_len ht
        simp only [ht] at h
        cases hr : lexF f (off + runL isBl l + len) ((c :: r).drop len) with
        | error e => simp [hr] at h
        | ok ws' =>
          have := lex_len f _ _ ws' hr
          simp only [hr] at h
          simp at h this hdl
          subst h
          simp
          omega
/-- What Words answers when it has come to a place. -/
def stepA (off : Nat) (l : List UInt8) (acc : List Wd) : List Wd × Nat × Int := match lexL off l with
  | .error (p, e) => ([], p, e)
  | .ok ws => (acc ++ ws, 0, 0)
theorem step_end (off : Nat) (l : List UInt8) (acc : List Wd) (h : l.dropWhile isBl = []) : stepA off l acc = (acc ++ [⟨5, off + runL isBl l, [], 0⟩], 0, 0) := by
  unfold stepA
  rw [lexL_eq, h]
theorem step_err (off : Nat) (l : List UInt8) (acc : List Wd) (c : UInt8) (r : List UInt8) (h : l.dropWhile isBl = c :: r) (e : Int) (ht : tok c r = .error e) : stepA off l acc = ([], off + runL isBl l, e) := by
  unfold stepA
  rw [lexL_eq, h]
  simp only [ht]
theorem step_ok (off : Nat) (l : List UInt8) (acc : List Wd) (c : UInt8) (r : List UInt8) (h : l.dropWhile isBl = c :: r) (k : Int) (t : List UInt8) (n : Int) (len : Nat) (ht : tok c r = .ok (k, t, n, len)) :
    stepA off l acc = stepA (off + runL isBl l + len) ((c :: r).drop len) (acc ++ [⟨k, off + runL isBl l, t, n⟩]) := by
  unfold stepA
  rw [lexL_eq, h]
  simp only [ht]
  cases lexL (off + runL isBl l + len) ((c :: r).drop len) with
  | error e => rfl
  | ok ws => simp
def atOf (g : Nat) (w : World) : Int := intOf ((w.cell? ⟨g, 1, none⟩).getD undef)
theorem atOf_at {w : World} {g : Nat} {n : Int} (h : w.cell? ⟨g, 1, none⟩ = some (.int .i64 n)) : atOf g w = n := by unfold atOf; rw [h]; rfl
set_option maxHeartbeats 16000000 in
set_option maxRecDepth 40000 in
theorem words_fun (s : ByteArray) :
    Fun Tryd.prog 6 #[.string s] Vars [] (fun v => [HP.ex fun u : Value => HP.and (v = .tuple #[u, .int .i64 ((wordsP s.toList).2.1 : Int), .int .i64 (wordsP s.toList).2.2]) (HP.row kWd 28 u (wordsP s.toList).1)]) := by
  intro w S hS hR
  have HS := St.start hS
  have HR := Aside0.mk hR
  clear hS hR
  have hu := Tryd.underlying37
  have huW := Tryd.underlying28
  have huS := Tryd.underlying22
  have HL := Aside0.mk (size_toList s)
  by_cases hbig : s.size > 1024
  · have hbI : (s.size : Int) > 1024 := by omega
    have hw : wordsP s.toList = ([], 0, 30) := by unfold wordsP; rw [if_pos (by rw [size_toList]; omega)]
    rw [hw]
    clear hw
    go_enter Tryd.func6, Tryd.ntmps6
    go_wp2_with fail
    refine bodyPost_ret (results_list (rs := [.tmp 2, .tmp 3, .tmp 4]) rfl (by simp) (.tmp (.tmp (.tmp .nil)))) rfl ?_
    exact ⟨_, rfl, St.ex_in (.slice none 0 0) (St.and_in rfl (HS.nil_ kWd 28))⟩
  · have hbI : ¬ (s.size : Int) > 1024 := by omega
    have hs : s.size ≤ 1024 := by omega
    have hwp : wordsP s.toList = stepA 0 (s.toList.drop 0) [] := by
      unfold wordsP stepA
      rw [if_neg (by rw [size_toList]; omega), List.drop_zero]
      cases lexL 0 s.toList with
      | error e => rfl
      | ok ws => simp
    have HWP := Aside0.mk hwp
    clear hwp hbig
    obtain ⟨xw, hxw⟩ : ∃ x, wordsP s.toList = x := ⟨_, rfl⟩
    rw [hxw] at HWP ⊢
    clear hxw
    have hmf : ∀ (fn : Fn) (first cap : Array Value) (w : World), (Instr.makeFunc fn first cap).run Tryd.prog w = .ok (.func fn first cap) w := fun _ _ _ _ => rfl
    go_enter Tryd.func6, Tryd.ntmps6
    go_wp2_with (first
      | ((with_reducible refine gate_dst (N := 16) rfl ?_); refine ev_box ?hg (N := 16) ?hd (cs := [.string s, .int .i64 0]) (t := 37) HS ?hr ?_; (case hd => rfl); (case hg => rfl); (case hr => first | (go_simp; done) | (go_simp; rfl)); intro g5 w1 HS_ hg_; clear HS; have HS := HS_; clear HS_))
    go_loopw [6] (fun v6 w' => ∃ (i : Nat) (acc : List Wd), i ≤ s.size ∧ acc.length ≤ i ∧ Aside0 (xw = stepA i (s.toList.drop i) acc) ∧ St w S w' [HP.row kWd 28 v6 (acc), HP.obj g5 37 [.string s, .int .i64 (i : Int)]]) (fun _ w' => s.size - (atOf g5 w').toNat)
    case atStart => exact ⟨0, [], Nat.zero_le _, by simp, HWP, HS.nil_ kWd 28⟩
    case round =>
      clear HS
      obtain ⟨i, acc, hi, hal, HX, HS⟩ := hrel
      obtain ⟨j, hj⟩ : ∃ j, i + runL isBl (s.toList.drop i) = j := ⟨_, rfl⟩
      have hwh := while_fun 10 isBl (enters Tryd.func10 (by kernel_rfl) (by kernel_rfl)) blank_fun g5 s (by omega) (i : Int) i hi j hj
      have hjs : j ≤ s.size := by
        have h1 := runL_le isBl (s.toList.drop i)
        rw [List.length_drop, HL.out] at h1
        omega
      have hij : i ≤ j := by omega
      have hdw : (s.toList.drop i).dropWhile isBl = s.toList.drop j := by
        rw [runL_drop, List.drop_drop, hj]
      have HWH := Aside0.mk hwh
      have HDW := Aside0.mk hdw
      have HJ := Aside0.mk hj
      clear hwh hdw hj
      obtain ⟨A6, c6, rfl, hc6, -⟩ := St.row_C HS
      have q0 := (HS.mv 1).cell 0
      have q1 := (HS.mv 1).cell 1
      have HWR0 := Aside0.mk (show wr.cell? ⟨g5, 1, none⟩ = some (.int .i64 (i : Int)) from (HS.mv 1).cell 1)
      have hj0 : (0 : Int) ≤ (j : Int) := by omega
      go_wp2_with fail
      refine ((HWH.out).call (F := [HP.row kWd 28 (.slice A6 acc.length c6) acc]) (HS.mv 1) (fun _ _ _ _ => trivial)).mono ?_
      rintro e_ w5 ⟨rfl, HS_⟩
      clear HS q0 q1
      have HS : St w S w5 [HP.obj g5 37 [.string s, .int .i64 (i : Int)], HP.row kWd 28 (.slice A6 acc.length c6) acc] := HS_
      clear HS_
      have q0 := HS.cell 0
      have q1 := HS.cell 1
      by_cases hend : j = s.size
      · have heb : ((j : Int) == (s.size : Int)) = true := by rw [beq_iff_eq]; omega
        have hxe := step_end i (s.toList.drop i) acc (by rw [HDW.out, hend]; exact List.drop_eq_nil_of_le (by rw [HL.out]; exact Nat.le_refl _))
        rw [HJ.out, ← HX.out] at hxe
        subst hxe
        clear hend HX HWP
        have hle : (acc.length + 1) * 40 ≤ 140737488355328 := by omega
        go_wp2_with (first
          | ((with_reducible refine gate_ (.store 3 (.tmp 25) (.tmp 23)) rfl ?_); refine ev_store rfl rfl 3 (.tmp 25) (.tmp 23) rfl HS (g := g5) (j := 1) rfl rfl (seg := [.int .i64 (j : Int)]) rfl ?ht rfl ?hf ?_; (case ht => kernel_rfl); (case hf => first | (simp; done) | (simp [splice]; done)); intro w6 HS_; clear HS q0 q1; have HS : St w S w6 [HP.obj g5 37 [.string s, .int .i64 (j : Int)], HP.row kWd 28 (.slice A6 acc.length c6) acc] := HS_; clear HS_; have q0 := HS.cell 0; have q1 := HS.cell 1; have HA : St w S w6 [HP.row kWd 28 (.slice A6 acc.length c6) acc, HP.cells kWd (⟨5, j, [], 0⟩ : Wd) [.int .i64 5, .int .i64 (j : Int), .string ⟨#[]⟩, .int .i64 0], HP.obj g5 37 [.string s, .int .i64 (j : Int)]] := ((HS.cells_ (d := kWd) (x := (⟨5, j, [], 0⟩ : Wd)) (cs := [.int .i64 5, .int .i64 (j : Int), .string ⟨#[]⟩, .int .i64 0]) (kWd_mkM _ _ _ ⟨5, j, [], 0⟩)).mv 2).mv 1 |>.mv 1)
          | ((with_reducible refine gate_dst (N := 40) rfl ?_); at_builtin; refine ev_append kWd rfl (.tmp 33) (.tmp 39) 22 28 _ 40 rfl Tryd.underlying22 infoWd rfl (by decide) (by omega) (.slice A6 acc.length c6) acc (⟨5, j, [], 0⟩ : Wd) [.int .i64 5, .int .i64 (j : Int), .string ⟨#[]⟩, .int .i64 0] rfl rfl HA (by omega) ?_; intro v3 w9 H5; clear HA q0 q1))
        refine bodyPost_ret (results_list (rs := [.tmp 2, .tmp 3, .tmp 4]) rfl (by simp) (.tmp (.tmp (.tmp .nil)))) rfl ?_
        exact ⟨_, rfl, St.ex_in _ (St.and_in rfl (H5.out 1))⟩
      · have hej : ((j : Int) == (s.size : Int)) = false := by rw [beq_eq_false_iff_ne]; omega
        have hjI : (j : Int) < (s.size : Int) := by omega
        have hjs2 : j < s.size := by omega
        have hcr := drop_at s j hjs2
        obtain ⟨c, hc⟩ : ∃ c : UInt8, s[j] = c := ⟨_, rfl⟩
        rw [hc] at hcr
        obtain ⟨r, hr⟩ : ∃ r, s.toList.drop (j + 1) = r := ⟨_, rfl⟩
        rw [hr] at hcr
        have hxx : ∀ h : j < s.size, ((s[j]'h).toNat : Int) = (c.toNat : Int) := fun h => by rw [← hc]
        have HLt := Aside0.mk (letter_fun c)
        have HDg := Aside0.mk (digit_fun c)
        have HCR := Aside0.mk hcr
        have HWR : Aside0 (wr.cell? ⟨g5, 1, none⟩ = some (.int .i64 (i : Int))) := HWR0
        have h39 := u8_eq c 39 (by decide)
        have h45 := u8_eq c 45 (by decide)
        rw [show UInt8.ofNat 39 = 39 from rfl] at h39
        rw [show UInt8.ofNat 45 = 45 from rfl] at h45
        clear hend hr hc
        cases hlt : isLet c
        · rw [hlt] at HLt
          cases hdg : (isDig c || c == 45)
          · have hdg1 : isDig c = false := by cases h : isDig c <;> simp [h] at hdg ⊢
            have hb45 : ((c.toNat : Int) == 45) = false := by
              rw [hdg1, h45] at hdg
              rw [beq_eq_false_iff_ne]
              simpa using hdg
            rw [hdg1] at HDg
            by_cases hq : c = 39
            · have hb39 : ((c.toNat : Int) == 39) = true := by
                rw [hq]; rfl
              obtain ⟨K, TX, N, E, EN, hf, hcase⟩ := reads_txt g5 s (by omega) j c r hcr hq
              generalize hm : (c.toNat : Int) = m at hxx hb39 hb45 HLt HDg
              have HF := Aside0.mk hf
              have HCase := Aside0.mk hcase
              clear hm hf hcase hcr hq hlt hdg hdg1 h39 h45
              go_wp2_with (first
                | ((with_reducible refine gate_ (.store 3 (.tmp 25) (.tmp 23)) rfl ?_); refine ev_store rfl rfl 3 (.tmp 25) (.tmp 23) rfl HS (g := g5) (j := 1) rfl rfl (seg := [.int .i64 (j : Int)]) rfl ?ht rfl ?hf ?_; (case ht => kernel_rfl); (case hf => first | (simp; done) | (simp [splice]; done)); intro w6 HS_; clear HS q0 q1; have HS : St w S w6 [HP.obj g5 37 [.string s, .int .i64 (j : Int)], HP.row kWd 28 (.slice A6 acc.length c6) acc] := HS_; clear HS_; have q0 := HS.cell 0; have q1 := HS.cell 1)
                | (go_at_call 12; refine (HLt.out _).mono ?_; rintro e w' ⟨rfl, rfl⟩)
                | (go_at_call 14; refine (HDg.out _).mono ?_; rintro e w' ⟨rfl, rfl⟩))
              refine ((HF.out).call (F := [HP.row kWd 28 (.slice A6 acc.length c6) acc]) HS (fun w' _ e _ => HR.out w' e)).mono ?_
              rintro e_ w7 ⟨rfl, HS_⟩
              clear HS q0 q1
              have HS : St w S w7 [HP.obj g5 37 [.string s, .int .i64 (EN : Int)], HP.row kWd 28 (.slice A6 acc.length c6) acc] := HS_
              clear HS_
              by_cases hE : E = 0
              · subst hE
                obtain ⟨htok, hEN, hENs⟩ : tok c r = .ok (K, TX.toList, N, EN - j) ∧ j < EN ∧ EN ≤ s.size := by
                  rcases HCase.out with ⟨_, h⟩ | ⟨h, _⟩
                  · exact h
                  · exact absurd rfl h
                have hstep := step_ok i (s.toList.drop i) acc c r (HDW.out.trans HCR.out) K TX.toList N (EN - j) htok
                rw [HJ.out, show j + (EN - j) = EN by omega, ← HCR.out, List.drop_drop, show j + (EN - j) = EN by omega, ← HX.out] at hstep
                have HST := Aside0.mk hstep
                clear htok hstep HX HWP HCase HCR HDW HJ
                have hle : (acc.length + 1) * 40 ≤ 140737488355328 := by omega
                have hmk : ∀ w : World, kWd.M w 0 (fun _ => False) (⟨K, j, TX.toList, N⟩ : Wd) [.int .i64 K, .int .i64 (j : Int), .string TX, .int .i64 N] := fun w => by
                  have h := kWd_mkM w 0 (fun _ => False) (⟨K, j, TX.toList, N⟩ : Wd)
                  rw [ba_eq] at h
                  exact h
                have HMK := Aside0.mk hmk
                clear hmk
                go_wp2_with (first
                  | ((with_reducible refine gate_dst (N := 9) rfl ?_); refine ev_box ?hg (N := 9) ?hd (cs := [.int .i64 0, .int .i64 0, .string ⟨#[]⟩, .int .i64 0]) (t := 28) HS ?hr ?_; (case hd => rfl); (case hg => rfl); (case hr => first | (go_simp; done) | (go_simp; rfl)); intro g9 w8 HS_ hg_; clear HS; have HS := HS_; clear HS_; have p0 := HS.cell 0; have p1 := HS.cell 1; have p2 := HS.cell 2; have p3 := HS.cell 3)
                  | ((with_reducible refine gate_ (.store 28 (.tmp 9) (.tmp 71)) rfl ?_); refine ev_store rfl rfl 28 (.tmp 9) (.tmp 71) rfl HS (g := g9) (j := 0) rfl rfl (seg := [.int .i64 K, .int .i64 (j : Int), .string TX, .int .i64 N]) rfl ?ht rfl ?hf ?_; (case ht => kernel_rfl); (case hf => first | (simp; done) | (simp [splice]; done)); intro w9 HS_; clear HS p0 p1 p2 p3; have HS : St w S w9 [HP.obj g9 28 [.int .i64 K, .int .i64 (j : Int), .string TX, .int .i64 N], HP.obj g5 37 [.string s, .int .i64 (EN : Int)], HP.row kWd 28 (.slice A6 acc.length c6) acc] := HS_; clear HS_; have p0 := HS.cell 0; have p1 := HS.cell 1; have p2 := HS.cell 2; have p3 := HS.cell 3; have HA : St w S w9 [HP.row kWd 28 (.slice A6 acc.length c6) acc, HP.cells kWd (⟨K, j, TX.toList, N⟩ : Wd) [.int .i64 K, .int .i64 (j : Int), .string TX, .int .i64 N], HP.obj g9 28 [.int .i64 K, .int .i64 (j : Int), .string TX, .int .i64 N], HP.obj g5 37 [.string s, .int .i64 (EN : Int)]] := (HS.cells_ (d := kWd) (x := (⟨K, j, TX.toList, N⟩ : Wd)) (cs := [.int .i64 K, .int .i64 (j : Int), .string TX, .int .i64 N]) (HMK.out _)).mv 3)
                  | ((with_reducible refine gate_dst (N := 81) rfl ?_); at_builtin; refine ev_append kWd rfl (.tmp 78) (.tmp 80) 22 28 _ 40 rfl Tryd.underlying22 infoWd rfl (by decide) (by omega) (.slice A6 acc.length c6) acc (⟨K, j, TX.toList, N⟩ : Wd) [.int .i64 K, .int .i64 (j : Int), .string TX, .int .i64 N] rfl rfl HA (by omega) ?_; intro v3 w10 H5; clear HA HS p0 p1 p2 p3))
                have HE5 := (H5.mv 2).cell 1
                have hlt : s.size - (atOf g5 w10).toNat < s.size - (atOf g5 wr).toNat := by
                  rw [atOf_at HE5, atOf_at HWR.out]
                  omega
                have HLT := Aside0.mk hlt
                clear hlt HE5
                go_roundw
                case rel => exact ⟨EN, acc ++ [(⟨K, j, TX.toList, N⟩ : Wd)], by omega, by simp; omega, HST, H5.out 1⟩
                case measure => exact HLT.out
              · have htok : tok c r = .error E := by
                  rcases HCase.out with ⟨h, _⟩ | ⟨_, h⟩
                  · exact absurd h hE
                  · exact h
                have hstep := step_err i (s.toList.drop i) acc c r (HDW.out.trans HCR.out) E htok
                rw [HJ.out, ← HX.out] at hstep
                subst hstep
                have hEb : (E == 0) = false := by rw [beq_eq_false_iff_ne]; exact hE
                clear htok HX HWP HCase HCR HDW HJ hE
                go_wp2_with (first
                  | ((with_reducible refine gate_dst (N := 9) rfl ?_); refine ev_box ?hg (N := 9) ?hd (cs := [.int .i64 0, .int .i64 0, .string ⟨#[]⟩, .int .i64 0]) (t := 28) HS ?hr ?_; (case hd => rfl); (case hg => rfl); (case hr => first | (go_simp; done) | (go_simp; rfl)); intro g9 w8 HS_ hg_; clear HS; have HS := HS_; clear HS_; have p0 := HS.cell 0; have p1 := HS.cell 1; have p2 := HS.cell 2; have p3 := HS.cell 3)
                  | ((with_reducible refine gate_ (.store 28 (.tmp 9) (.tmp 71)) rfl ?_); refine ev_store rfl rfl 28 (.tmp 9) (.tmp 71) rfl HS (g := g9) (j := 0) rfl rfl (seg := [.int .i64 K, .int .i64 (j : Int), .string TX, .int .i64 N]) rfl ?ht rfl ?hf ?_; (case ht => kernel_rfl); (case hf => first | (simp; done) | (simp [splice]; done)); intro w9 HS_; clear HS p0 p1 p2 p3; have HS : St w S w9 [HP.obj g9 28 [.int .i64 K, .int .i64 (j : Int), .string TX, .int .i64 N], HP.obj g5 37 [.string s, .int .i64 (EN : Int)], HP.row kWd 28 (.slice A6 acc.length c6) acc] := HS_; clear HS_; have p0 := HS.cell 0; have p1 := HS.cell 1; have p2 := HS.cell 2; have p3 := HS.cell 3))
                refine start_ (n := 6) (S := fun w' => w'.cell? ⟨g9, 1, none⟩ = some (.int .i64 (j : Int))) (ds := []) #[false, false, false, false, false, false] (by kernel_rfl) rfl rfl (HS.drew.cell 1) (fun hHeld => ?_)
                refine pure_ (i := 0) (N := some 75) (v := ?_) (a' := ?_) #[true, false, false, false, false, false] rfl rfl (by kernel_rfl) (fun _ _ _ h => h) (Or.inl ⟨by rfl, ?_⟩) ?_ ?_
                rotate_left
                · intro w'
                  go_simp
                  with_reducible rfl
                rotate_left
                · simp only [Act.put, List.setIfInBounds_toArray, List.set_cons_zero, List.set_cons_succ, i64_w, i32_w]
                  rfl
                refine pure_ (i := 2) (N := some 77) (v := ?_) (a' := ?_) #[true, false, true, false, false, false] rfl rfl (by kernel_rfl) (fun _ _ _ h => h) (Or.inl ⟨by rfl, ?_⟩) ?_ ?_
                rotate_left
                · intro w'
                  go_simp
                  with_reducible rfl
                rotate_left
                · simp only [Act.put, List.setIfInBounds_toArray, List.set_cons_zero, List.set_cons_succ, i64_w, i32_w]
                  rfl
                refine pure_ (i := 3) (N := some 2) (v := ?_) (a' := ?_) #[true, false, true, true, false, false] rfl rfl (by kernel_rfl) (fun _ _ _ h => h) (Or.inl ⟨by rfl, ?_⟩) ?_ ?_
                rotate_left
                · intro w'
                  go_simp
                  with_reducible rfl
                rotate_left
                · simp only [Act.put, List.setIfInBounds_toArray, List.set_cons_zero, List.set_cons_succ, i64_w, i32_w]
                  rfl
                refine take_ (i := 1) (N := some 76) (v := ?_) (a' := ?_) #[true, true, true, true, false, false] rfl rfl (by kernel_rfl) (fun _ _ _ h => h) (Or.inl ⟨by rfl, ?_⟩) hHeld ?_ ?_
                rotate_left
                · intro w' s0
                  go_simp
                  with_reducible rfl
                rotate_left
                · simp only [Act.put, List.setIfInBounds_toArray, List.set_cons_zero, List.set_cons_succ, i64_w, i32_w]
                  rfl
                refine pure_ (i := 4) (N := some 3) (v := ?_) (a' := ?_) #[true, true, true, true, true, false] rfl rfl (by kernel_rfl) (fun _ _ _ h => h) (Or.inl ⟨by rfl, ?_⟩) ?_ ?_
                rotate_left
                · intro w'
                  go_simp
                  with_reducible rfl
                rotate_left
                · simp only [Act.put, List.setIfInBounds_toArray, List.set_cons_zero, List.set_cons_succ, i64_w, i32_w]
                  rfl
                refine pure_ (i := 5) (N := some 4) (v := ?_) (a' := ?_) #[true, true, true, true, true, true] rfl rfl (by kernel_rfl) (fun _ _ _ h => h) (Or.inl ⟨by rfl, ?_⟩) ?_ ?_
                rotate_left
                · intro w'
                  go_simp
                  with_reducible rfl
                rotate_left
                · simp only [Act.put, List.setIfInBounds_toArray, List.set_cons_zero, List.set_cons_succ, i64_w, i32_w]
                  rfl
                refine done_ (by kernel_rfl) ?_
                clear hHeld
                go_wp2_with fail
                refine bodyPost_ret (results_list (rs := [.tmp 2, .tmp 3, .tmp 4]) rfl (by simp) (.tmp (.tmp (.tmp .nil)))) rfl ?_
                exact ⟨_, rfl, St.ex_in (.slice none 0 0) (St.and_in rfl ((((HS.drew.out 0).out 0).out 0).nil_ kWd 28))⟩
            · have hb39 : ((c.toNat : Int) == 39) = false := by
                rw [beq_eq_false_iff_ne]
                intro e
                exact hq (UInt8.toNat_inj.1 (by have : (39 : UInt8).toNat = 39 := rfl; omega))
              obtain ⟨K, TX, N, E, EN, hf, hcase⟩ := reads_sig g5 s (by omega) j c r hcr hlt hdg hq
              generalize hm : (c.toNat : Int) = m at hxx hb39 hb45 HLt HDg
              have HF := Aside0.mk hf
              have HCase := Aside0.mk hcase
              clear hm hf hcase hcr hq hlt hdg hdg1 h39 h45
              go_wp2_with (first
                | ((with_reducible refine gate_ (.store 3 (.tmp 25) (.tmp 23)) rfl ?_); refine ev_store rfl rfl 3 (.tmp 25) (.tmp 23) rfl HS (g := g5) (j := 1) rfl rfl (seg := [.int .i64 (j : Int)]) rfl ?ht rfl ?hf ?_; (case ht => kernel_rfl); (case hf => first | (simp; done) | (simp [splice]; done)); intro w6 HS_; clear HS q0 q1; have HS : St w S w6 [HP.obj g5 37 [.string s, .int .i64 (j : Int)], HP.row kWd 28 (.slice A6 acc.length c6) acc] := HS_; clear HS_; have q0 := HS.cell 0; have q1 := HS.cell 1)
                | (go_at_call 12; refine (HLt.out _).mono ?_; rintro e w' ⟨rfl, rfl⟩)
                | (go_at_call 14; refine (HDg.out _).mono ?_; rintro e w' ⟨rfl, rfl⟩))
              refine ((HF.out).call (F := [HP.row kWd 28 (.slice A6 acc.length c6) acc]) HS (fun w' _ e _ => HR.out w' e)).mono ?_
              rintro e_ w7 ⟨rfl, HS_⟩
              clear HS q0 q1
              have HS : St w S w7 [HP.obj g5 37 [.string s, .int .i64 (EN : Int)], HP.row kWd 28 (.slice A6 acc.length c6) acc] := HS_
              clear HS_
              by_cases hE : E = 0
              · subst hE
                obtain ⟨htok, hEN, hENs⟩ : tok c r = .ok (K, TX.toList, N, EN - j) ∧ j < EN ∧ EN ≤ s.size := by
                  rcases HCase.out with ⟨_, h⟩ | ⟨h, _⟩
                  · exact h
                  · exact absurd rfl h
                have hstep := step_ok i (s.toList.drop i) acc c r (HDW.out.trans HCR.out) K TX.toList N (EN - j) htok
                rw [HJ.out, show j + (EN - j) = EN by omega, ← HCR.out, List.drop_drop, show j + (EN - j) = EN by omega, ← HX.out] at hstep
                have HST := Aside0.mk hstep
                clear htok hstep HX HWP HCase HCR HDW HJ
                have hle : (acc.length + 1) * 40 ≤ 140737488355328 := by omega
                have hmk : ∀ w : World, kWd.M w 0 (fun _ => False) (⟨K, j, TX.toList, N⟩ : Wd) [.int .i64 K, .int .i64 (j : Int), .string TX, .int .i64 N] := fun w => by
                  have h := kWd_mkM w 0 (fun _ => False) (⟨K, j, TX.toList, N⟩ : Wd)
                  rw [ba_eq] at h
                  exact h
                have HMK := Aside0.mk hmk
                clear hmk
                go_wp2_with (first
                  | ((with_reducible refine gate_dst (N := 9) rfl ?_); refine ev_box ?hg (N := 9) ?hd (cs := [.int .i64 0, .int .i64 0, .string ⟨#[]⟩, .int .i64 0]) (t := 28) HS ?hr ?_; (case hd => rfl); (case hg => rfl); (case hr => first | (go_simp; done) | (go_simp; rfl)); intro g9 w8 HS_ hg_; clear HS; have HS := HS_; clear HS_; have p0 := HS.cell 0; have p1 := HS.cell 1; have p2 := HS.cell 2; have p3 := HS.cell 3)
                  | ((with_reducible refine gate_ (.store 28 (.tmp 9) (.tmp 71)) rfl ?_); refine ev_store rfl rfl 28 (.tmp 9) (.tmp 71) rfl HS (g := g9) (j := 0) rfl rfl (seg := [.int .i64 K, .int .i64 (j : Int), .string TX, .int .i64 N]) rfl ?ht rfl ?hf ?_; (case ht => kernel_rfl); (case hf => first | (simp; done) | (simp [splice]; done)); intro w9 HS_; clear HS p0 p1 p2 p3; have HS : St w S w9 [HP.obj g9 28 [.int .i64 K, .int .i64 (j : Int), .string TX, .int .i64 N], HP.obj g5 37 [.string s, .int .i64 (EN : Int)], HP.row kWd 28 (.slice A6 acc.length c6) acc] := HS_; clear HS_; have p0 := HS.cell 0; have p1 := HS.cell 1; have p2 := HS.cell 2; have p3 := HS.cell 3; have HA : St w S w9 [HP.row kWd 28 (.slice A6 acc.length c6) acc, HP.cells kWd (⟨K, j, TX.toList, N⟩ : Wd) [.int .i64 K, .int .i64 (j : Int), .string TX, .int .i64 N], HP.obj g9 28 [.int .i64 K, .int .i64 (j : Int), .string TX, .int .i64 N], HP.obj g5 37 [.string s, .int .i64 (EN : Int)]] := (HS.cells_ (d := kWd) (x := (⟨K, j, TX.toList, N⟩ : Wd)) (cs := [.int .i64 K, .int .i64 (j : Int), .string TX, .int .i64 N]) (HMK.out _)).mv 3)
                  | ((with_reducible refine gate_dst (N := 81) rfl ?_); at_builtin; refine ev_append kWd rfl (.tmp 78) (.tmp 80) 22 28 _ 40 rfl Tryd.underlying22 infoWd rfl (by decide) (by omega) (.slice A6 acc.length c6) acc (⟨K, j, TX.toList, N⟩ : Wd) [.int .i64 K, .int .i64 (j : Int), .string TX, .int .i64 N] rfl rfl HA (by omega) ?_; intro v3 w10 H5; clear HA HS p0 p1 p2 p3))
                have HE5 := (H5.mv 2).cell 1
                have hlt : s.size - (atOf g5 w10).toNat < s.size - (atOf g5 wr).toNat := by
                  rw [atOf_at HE5, atOf_at HWR.out]
                  omega
                have HLT := Aside0.mk hlt
                clear hlt HE5
                go_roundw
                case rel => exact ⟨EN, acc ++ [(⟨K, j, TX.toList, N⟩ : Wd)], by omega, by simp; omega, HST, H5.out 1⟩
                case measure => exact HLT.out
              · have htok : tok c r = .error E := by
                  rcases HCase.out with ⟨h, _⟩ | ⟨_, h⟩
                  · exact absurd h hE
                  · exact h
                have hstep := step_err i (s.toList.drop i) acc c r (HDW.out.trans HCR.out) E htok
                rw [HJ.out, ← HX.out] at hstep
                subst hstep
                have hEb : (E == 0) = false := by rw [beq_eq_false_iff_ne]; exact hE
                clear htok HX HWP HCase HCR HDW HJ hE
                go_wp2_with (first
                  | ((with_reducible refine gate_dst (N := 9) rfl ?_); refine ev_box ?hg (N := 9) ?hd (cs := [.int .i64 0, .int .i64 0, .string ⟨#[]⟩, .int .i64 0]) (t := 28) HS ?hr ?_; (case hd => rfl); (case hg => rfl); (case hr => first | (go_simp; done) | (go_simp; rfl)); intro g9 w8 HS_ hg_; clear HS; have HS := HS_; clear HS_; have p0 := HS.cell 0; have p1 := HS.cell 1; have p2 := HS.cell 2; have p3 := HS.cell 3)
                  | ((with_reducible refine gate_ (.store 28 (.tmp 9) (.tmp 71)) rfl ?_); refine ev_store rfl rfl 28 (.tmp 9) (.tmp 71) rfl HS (g := g9) (j := 0) rfl rfl (seg := [.int .i64 K, .int .i64 (j : Int), .string TX, .int .i64 N]) rfl ?ht rfl ?hf ?_; (case ht => kernel_rfl); (case hf => first | (simp; done) | (simp [splice]; done)); intro w9 HS_; clear HS p0 p1 p2 p3; have HS : St w S w9 [HP.obj g9 28 [.int .i64 K, .int .i64 (j : Int), .string TX, .int .i64 N], HP.obj g5 37 [.string s, .int .i64 (EN : Int)], HP.row kWd 28 (.slice A6 acc.length c6) acc] := HS_; clear HS_; have p0 := HS.cell 0; have p1 := HS.cell 1; have p2 := HS.cell 2; have p3 := HS.cell 3))
                refine start_ (n := 6) (S := fun w' => w'.cell? ⟨g9, 1, none⟩ = some (.int .i64 (j : Int))) (ds := []) #[false, false, false, false, false, false] (by kernel_rfl) rfl rfl (HS.drew.cell 1) (fun hHeld => ?_)
                refine pure_ (i := 0) (N := some 75) (v := ?_) (a' := ?_) #[true, false, false, false, false, false] rfl rfl (by kernel_rfl) (fun _ _ _ h => h) (Or.inl ⟨by rfl, ?_⟩) ?_ ?_
                rotate_left
                · intro w'
                  go_simp
                  with_reducible rfl
                rotate_left
                · simp only [Act.put, List.setIfInBounds_toArray, List.set_cons_zero, List.set_cons_succ, i64_w, i32_w]
                  rfl
                refine pure_ (i := 2) (N := some 77) (v := ?_) (a' := ?_) #[true, false, true, false, false, false] rfl rfl (by kernel_rfl) (fun _ _ _ h => h) (Or.inl ⟨by rfl, ?_⟩) ?_ ?_
                rotate_left
                · intro w'
                  go_simp
                  with_reducible rfl
                rotate_left
                · simp only [Act.put, List.setIfInBounds_toArray, List.set_cons_zero, List.set_cons_succ, i64_w, i32_w]
                  rfl
                refine pure_ (i := 3) (N := some 2) (v := ?_) (a' := ?_) #[true, false, true, true, false, false] rfl rfl (by kernel_rfl) (fun _ _ _ h => h) (Or.inl ⟨by rfl, ?_⟩) ?_ ?_
                rotate_left
                · intro w'
                  go_simp
                  with_reducible rfl
                rotate_left
                · simp only [Act.put, List.setIfInBounds_toArray, List.set_cons_zero, List.set_cons_succ, i64_w, i32_w]
                  rfl
                refine take_ (i := 1) (N := some 76) (v := ?_) (a' := ?_) #[true, true, true, true, false, false] rfl rfl (by kernel_rfl) (fun _ _ _ h => h) (Or.inl ⟨by rfl, ?_⟩) hHeld ?_ ?_
                rotate_left
                · intro w' s0
                  go_simp
                  with_reducible rfl
                rotate_left
                · simp only [Act.put, List.setIfInBounds_toArray, List.set_cons_zero, List.set_cons_succ, i64_w, i32_w]
                  rfl
                refine pure_ (i := 4) (N := some 3) (v := ?_) (a' := ?_) #[true, true, true, true, true, false] rfl rfl (by kernel_rfl) (fun _ _ _ h => h) (Or.inl ⟨by rfl, ?_⟩) ?_ ?_
                rotate_left
                · intro w'
                  go_simp
                  with_reducible rfl
                rotate_left
                · simp only [Act.put, List.setIfInBounds_toArray, List.set_cons_zero, List.set_cons_succ, i64_w, i32_w]
                  rfl
                refine pure_ (i := 5) (N := some 4) (v := ?_) (a' := ?_) #[true, true, true, true, true, true] rfl rfl (by kernel_rfl) (fun _ _ _ h => h) (Or.inl ⟨by rfl, ?_⟩) ?_ ?_
                rotate_left
                · intro w'
                  go_simp
                  with_reducible rfl
                rotate_left
                · simp only [Act.put, List.setIfInBounds_toArray, List.set_cons_zero, List.set_cons_succ, i64_w, i32_w]
                  rfl
                refine done_ (by kernel_rfl) ?_
                clear hHeld
                go_wp2_with fail
                refine bodyPost_ret (results_list (rs := [.tmp 2, .tmp 3, .tmp 4]) rfl (by simp) (.tmp (.tmp (.tmp .nil)))) rfl ?_
                exact ⟨_, rfl, St.ex_in (.slice none 0 0) (St.and_in rfl ((((HS.drew.out 0).out 0).out 0).nil_ kWd 28))⟩
          · obtain ⟨d, hd1⟩ : ∃ d, isDig c = d := ⟨_, rfl⟩
            have hb45 : d = false → ((c.toNat : Int) == 45) = true := by
              intro h
              rw [hd1, h, h45] at hdg
              rw [beq_iff_eq]
              simpa using hdg
            rw [hd1] at HDg
            cases d
            · have hb45 := hb45 rfl
              obtain ⟨K, TX, N, E, EN, hf, hcase⟩ := reads_num g5 s (by omega) j c r hcr hlt hdg
              generalize hm : (c.toNat : Int) = m at hxx hb45 HLt HDg
              have HF := Aside0.mk hf
              have HCase := Aside0.mk hcase
              clear hm hf hcase hcr hlt hdg hd1 h39 h45
              go_wp2_with (first
                | ((with_reducible refine gate_ (.store 3 (.tmp 25) (.tmp 23)) rfl ?_); refine ev_store rfl rfl 3 (.tmp 25) (.tmp 23) rfl HS (g := g5) (j := 1) rfl rfl (seg := [.int .i64 (j : Int)]) rfl ?ht rfl ?hf ?_; (case ht => kernel_rfl); (case hf => first | (simp; done) | (simp [splice]; done)); intro w6 HS_; clear HS q0 q1; have HS : St w S w6 [HP.obj g5 37 [.string s, .int .i64 (j : Int)], HP.row kWd 28 (.slice A6 acc.length c6) acc] := HS_; clear HS_; have q0 := HS.cell 0; have q1 := HS.cell 1)
                | (go_at_call 12; refine (HLt.out _).mono ?_; rintro e w' ⟨rfl, rfl⟩)
                | (go_at_call 14; refine (HDg.out _).mono ?_; rintro e w' ⟨rfl, rfl⟩))
              refine ((HF.out).call (F := [HP.row kWd 28 (.slice A6 acc.length c6) acc]) HS (fun w' _ e _ => HR.out w' e)).mono ?_
              rintro e_ w7 ⟨rfl, HS_⟩
              clear HS q0 q1
              have HS : St w S w7 [HP.obj g5 37 [.string s, .int .i64 (EN : Int)], HP.row kWd 28 (.slice A6 acc.length c6) acc] := HS_
              clear HS_
              by_cases hE : E = 0
              · subst hE
                obtain ⟨htok, hEN, hENs⟩ : tok c r = .ok (K, TX.toList, N, EN - j) ∧ j < EN ∧ EN ≤ s.size := by
                  rcases HCase.out with ⟨_, h⟩ | ⟨h, _⟩
                  · exact h
                  · exact absurd rfl h
                have hstep := step_ok i (s.toList.drop i) acc c r (HDW.out.trans HCR.out) K TX.toList N (EN - j) htok
                rw [HJ.out, show j + (EN - j) = EN by omega, ← HCR.out, List.drop_drop, show j + (EN - j) = EN by omega, ← HX.out] at hstep
                have HST := Aside0.mk hstep
                clear htok hstep HX HWP HCase HCR HDW HJ
                have hle : (acc.length + 1) * 40 ≤ 140737488355328 := by omega
                have hmk : ∀ w : World, kWd.M w 0 (fun _ => False) (⟨K, j, TX.toList, N⟩ : Wd) [.int .i64 K, .int .i64 (j : Int), .string TX, .int .i64 N] := fun w => by
                  have h := kWd_mkM w 0 (fun _ => False) (⟨K, j, TX.toList, N⟩ : Wd)
                  rw [ba_eq] at h
                  exact h
                have HMK := Aside0.mk hmk
                clear hmk
                go_wp2_with (first
                  | ((with_reducible refine gate_dst (N := 9) rfl ?_); refine ev_box ?hg (N := 9) ?hd (cs := [.int .i64 0, .int .i64 0, .string ⟨#[]⟩, .int .i64 0]) (t := 28) HS ?hr ?_; (case hd => rfl); (case hg => rfl); (case hr => first | (go_simp; done) | (go_simp; rfl)); intro g9 w8 HS_ hg_; clear HS; have HS := HS_; clear HS_; have p0 := HS.cell 0; have p1 := HS.cell 1; have p2 := HS.cell 2; have p3 := HS.cell 3)
                  | ((with_reducible refine gate_ (.store 28 (.tmp 9) (.tmp 71)) rfl ?_); refine ev_store rfl rfl 28 (.tmp 9) (.tmp 71) rfl HS (g := g9) (j := 0) rfl rfl (seg := [.int .i64 K, .int .i64 (j : Int), .string TX, .int .i64 N]) rfl ?ht rfl ?hf ?_; (case ht => kernel_rfl); (case hf => first | (simp; done) | (simp [splice]; done)); intro w9 HS_; clear HS p0 p1 p2 p3; have HS : St w S w9 [HP.obj g9 28 [.int .i64 K, .int .i64 (j : Int), .string TX, .int .i64 N], HP.obj g5 37 [.string s, .int .i64 (EN : Int)], HP.row kWd 28 (.slice A6 acc.length c6) acc] := HS_; clear HS_; have p0 := HS.cell 0; have p1 := HS.cell 1; have p2 := HS.cell 2; have p3 := HS.cell 3; have HA : St w S w9 [HP.row kWd 28 (.slice A6 acc.length c6) acc, HP.cells kWd (⟨K, j, TX.toList, N⟩ : Wd) [.int .i64 K, .int .i64 (j : Int), .string TX, .int .i64 N], HP.obj g9 28 [.int .i64 K, .int .i64 (j : Int), .string TX, .int .i64 N], HP.obj g5 37 [.string s, .int .i64 (EN : Int)]] := (HS.cells_ (d := kWd) (x := (⟨K, j, TX.toList, N⟩ : Wd)) (cs := [.int .i64 K, .int .i64 (j : Int), .string TX, .int .i64 N]) (HMK.out _)).mv 3)
                  | ((with_reducible refine gate_dst (N := 81) rfl ?_); at_builtin; refine ev_append kWd rfl (.tmp 78) (.tmp 80) 22 28 _ 40 rfl Tryd.underlying22 infoWd rfl (by decide) (by omega) (.slice A6 acc.length c6) acc (⟨K, j, TX.toList, N⟩ : Wd) [.int .i64 K, .int .i64 (j : Int), .string TX, .int .i64 N] rfl rfl HA (by omega) ?_; intro v3 w10 H5; clear HA HS p0 p1 p2 p3))
                have HE5 := (H5.mv 2).cell 1
                have hlt : s.size - (atOf g5 w10).toNat < s.size - (atOf g5 wr).toNat := by
                  rw [atOf_at HE5, atOf_at HWR.out]
                  omega
                have HLT := Aside0.mk hlt
                clear hlt HE5
                go_roundw
                case rel => exact ⟨EN, acc ++ [(⟨K, j, TX.toList, N⟩ : Wd)], by omega, by simp; omega, HST, H5.out 1⟩
                case measure => exact HLT.out
              · have htok : tok c r = .error E := by
                  rcases HCase.out with ⟨h, _⟩ | ⟨_, h⟩
                  · exact absurd h hE
                  · exact h
                have hstep := step_err i (s.toList.drop i) acc c r (HDW.out.trans HCR.out) E htok
                rw [HJ.out, ← HX.out] at hstep
                subst hstep
                have hEb : (E == 0) = false := by rw [beq_eq_false_iff_ne]; exact hE
                clear htok HX HWP HCase HCR HDW HJ hE
                go_wp2_with (first
                  | ((with_reducible refine gate_dst (N := 9) rfl ?_); refine ev_box ?hg (N := 9) ?hd (cs := [.int .i64 0, .int .i64 0, .string ⟨#[]⟩, .int .i64 0]) (t := 28) HS ?hr ?_; (case hd => rfl); (case hg => rfl); (case hr => first | (go_simp; done) | (go_simp; rfl)); intro g9 w8 HS_ hg_; clear HS; have HS := HS_; clear HS_; have p0 := HS.cell 0; have p1 := HS.cell 1; have p2 := HS.cell 2; have p3 := HS.cell 3)
                  | ((with_reducible refine gate_ (.store 28 (.tmp 9) (.tmp 71)) rfl ?_); refine ev_store rfl rfl 28 (.tmp 9) (.tmp 71) rfl HS (g := g9) (j := 0) rfl rfl (seg := [.int .i64 K, .int .i64 (j : Int), .string TX, .int .i64 N]) rfl ?ht rfl ?hf ?_; (case ht => kernel_rfl); (case hf => first | (simp; done) | (simp [splice]; done)); intro w9 HS_; clear HS p0 p1 p2 p3; have HS : St w S w9 [HP.obj g9 28 [.int .i64 K, .int .i64 (j : Int), .string TX, .int .i64 N], HP.obj g5 37 [.string s, .int .i64 (EN : Int)], HP.row kWd 28 (.slice A6 acc.length c6) acc] := HS_; clear HS_; have p0 := HS.cell 0; have p1 := HS.cell 1; have p2 := HS.cell 2; have p3 := HS.cell 3))
                refine start_ (n := 6) (S := fun w' => w'.cell? ⟨g9, 1, none⟩ = some (.int .i64 (j : Int))) (ds := []) #[false, false, false, false, false, false] (by kernel_rfl) rfl rfl (HS.drew.cell 1) (fun hHeld => ?_)
                refine pure_ (i := 0) (N := some 75) (v := ?_) (a' := ?_) #[true, false, false, false, false, false] rfl rfl (by kernel_rfl) (fun _ _ _ h => h) (Or.inl ⟨by rfl, ?_⟩) ?_ ?_
                rotate_left
                · intro w'
                  go_simp
                  with_reducible rfl
                rotate_left
                · simp only [Act.put, List.setIfInBounds_toArray, List.set_cons_zero, List.set_cons_succ, i64_w, i32_w]
                  rfl
                refine pure_ (i := 2) (N := some 77) (v := ?_) (a' := ?_) #[true, false, true, false, false, false] rfl rfl (by kernel_rfl) (fun _ _ _ h => h) (Or.inl ⟨by rfl, ?_⟩) ?_ ?_
                rotate_left
                · intro w'
                  go_simp
                  with_reducible rfl
                rotate_left
                · simp only [Act.put, List.setIfInBounds_toArray, List.set_cons_zero, List.set_cons_succ, i64_w, i32_w]
                  rfl
                refine pure_ (i := 3) (N := some 2) (v := ?_) (a' := ?_) #[true, false, true, true, false, false] rfl rfl (by kernel_rfl) (fun _ _ _ h => h) (Or.inl ⟨by rfl, ?_⟩) ?_ ?_
                rotate_left
                · intro w'
                  go_simp
                  with_reducible rfl
                rotate_left
                · simp only [Act.put, List.setIfInBounds_toArray, List.set_cons_zero, List.set_cons_succ, i64_w, i32_w]
                  rfl
                refine take_ (i := 1) (N := some 76) (v := ?_) (a' := ?_) #[true, true, true, true, false, false] rfl rfl (by kernel_rfl) (fun _ _ _ h => h) (Or.inl ⟨by rfl, ?_⟩) hHeld ?_ ?_
                rotate_left
                · intro w' s0
                  go_simp
                  with_reducible rfl
                rotate_left
                · simp only [Act.put, List.setIfInBounds_toArray, List.set_cons_zero, List.set_cons_succ, i64_w, i32_w]
                  rfl
                refine pure_ (i := 4) (N := some 3) (v := ?_) (a' := ?_) #[true, true, true, true, true, false] rfl rfl (by kernel_rfl) (fun _ _ _ h => h) (Or.inl ⟨by rfl, ?_⟩) ?_ ?_
                rotate_left
                · intro w'
                  go_simp
                  with_reducible rfl
                rotate_left
                · simp only [Act.put, List.setIfInBounds_toArray, List.set_cons_zero, List.set_cons_succ, i64_w, i32_w]
                  rfl
                refine pure_ (i := 5) (N := some 4) (v := ?_) (a' := ?_) #[true, true, true, true, true, true] rfl rfl (by kernel_rfl) (fun _ _ _ h => h) (Or.inl ⟨by rfl, ?_⟩) ?_ ?_
                rotate_left
                · intro w'
                  go_simp
                  with_reducible rfl
                rotate_left
                · simp only [Act.put, List.setIfInBounds_toArray, List.set_cons_zero, List.set_cons_succ, i64_w, i32_w]
                  rfl
                refine done_ (by kernel_rfl) ?_
                clear hHeld
                go_wp2_with fail
                refine bodyPost_ret (results_list (rs := [.tmp 2, .tmp 3, .tmp 4]) rfl (by simp) (.tmp (.tmp (.tmp .nil)))) rfl ?_
                exact ⟨_, rfl, St.ex_in (.slice none 0 0) (St.and_in rfl ((((HS.drew.out 0).out 0).out 0).nil_ kWd 28))⟩
            · clear hb45
              obtain ⟨K, TX, N, E, EN, hf, hcase⟩ := reads_num g5 s (by omega) j c r hcr hlt hdg
              generalize hm : (c.toNat : Int) = m at hxx HLt HDg
              have HF := Aside0.mk hf
              have HCase := Aside0.mk hcase
              clear hm hf hcase hcr hlt hdg hd1 h39 h45
              go_wp2_with (first
                | ((with_reducible refine gate_ (.store 3 (.tmp 25) (.tmp 23)) rfl ?_); refine ev_store rfl rfl 3 (.tmp 25) (.tmp 23) rfl HS (g := g5) (j := 1) rfl rfl (seg := [.int .i64 (j : Int)]) rfl ?ht rfl ?hf ?_; (case ht => kernel_rfl); (case hf => first | (simp; done) | (simp [splice]; done)); intro w6 HS_; clear HS q0 q1; have HS : St w S w6 [HP.obj g5 37 [.string s, .int .i64 (j : Int)], HP.row kWd 28 (.slice A6 acc.length c6) acc] := HS_; clear HS_; have q0 := HS.cell 0; have q1 := HS.cell 1)
                | (go_at_call 12; refine (HLt.out _).mono ?_; rintro e w' ⟨rfl, rfl⟩)
                | (go_at_call 14; refine (HDg.out _).mono ?_; rintro e w' ⟨rfl, rfl⟩))
              refine ((HF.out).call (F := [HP.row kWd 28 (.slice A6 acc.length c6) acc]) HS (fun w' _ e _ => HR.out w' e)).mono ?_
              rintro e_ w7 ⟨rfl, HS_⟩
              clear HS q0 q1
              have HS : St w S w7 [HP.obj g5 37 [.string s, .int .i64 (EN : Int)], HP.row kWd 28 (.slice A6 acc.length c6) acc] := HS_
              clear HS_
              by_cases hE : E = 0
              · subst hE
                obtain ⟨htok, hEN, hENs⟩ : tok c r = .ok (K, TX.toList, N, EN - j) ∧ j < EN ∧ EN ≤ s.size := by
                  rcases HCase.out with ⟨_, h⟩ | ⟨h, _⟩
                  · exact h
                  · exact absurd rfl h
                have hstep := step_ok i (s.toList.drop i) acc c r (HDW.out.trans HCR.out) K TX.toList N (EN - j) htok
                rw [HJ.out, show j + (EN - j) = EN by omega, ← HCR.out, List.drop_drop, show j + (EN - j) = EN by omega, ← HX.out] at hstep
                have HST := Aside0.mk hstep
                clear htok hstep HX HWP HCase HCR HDW HJ
                have hle : (acc.length + 1) * 40 ≤ 140737488355328 := by omega
                have hmk : ∀ w : World, kWd.M w 0 (fun _ => False) (⟨K, j, TX.toList, N⟩ : Wd) [.int .i64 K, .int .i64 (j : Int), .string TX, .int .i64 N] := fun w => by
                  have h := kWd_mkM w 0 (fun _ => False) (⟨K, j, TX.toList, N⟩ : Wd)
                  rw [ba_eq] at h
                  exact h
                have HMK := Aside0.mk hmk
                clear hmk
                go_wp2_with (first
                  | ((with_reducible refine gate_dst (N := 9) rfl ?_); refine ev_box ?hg (N := 9) ?hd (cs := [.int .i64 0, .int .i64 0, .string ⟨#[]⟩, .int .i64 0]) (t := 28) HS ?hr ?_; (case hd => rfl); (case hg => rfl); (case hr => first | (go_simp; done) | (go_simp; rfl)); intro g9 w8 HS_ hg_; clear HS; have HS := HS_; clear HS_; have p0 := HS.cell 0; have p1 := HS.cell 1; have p2 := HS.cell 2; have p3 := HS.cell 3)
                  | ((with_reducible refine gate_ (.store 28 (.tmp 9) (.tmp 71)) rfl ?_); refine ev_store rfl rfl 28 (.tmp 9) (.tmp 71) rfl HS (g := g9) (j := 0) rfl rfl (seg := [.int .i64 K, .int .i64 (j : Int), .string TX, .int .i64 N]) rfl ?ht rfl ?hf ?_; (case ht => kernel_rfl); (case hf => first | (simp; done) | (simp [splice]; done)); intro w9 HS_; clear HS p0 p1 p2 p3; have HS : St w S w9 [HP.obj g9 28 [.int .i64 K, .int .i64 (j : Int), .string TX, .int .i64 N], HP.obj g5 37 [.string s, .int .i64 (EN : Int)], HP.row kWd 28 (.slice A6 acc.length c6) acc] := HS_; clear HS_; have p0 := HS.cell 0; have p1 := HS.cell 1; have p2 := HS.cell 2; have p3 := HS.cell 3; have HA : St w S w9 [HP.row kWd 28 (.slice A6 acc.length c6) acc, HP.cells kWd (⟨K, j, TX.toList, N⟩ : Wd) [.int .i64 K, .int .i64 (j : Int), .string TX, .int .i64 N], HP.obj g9 28 [.int .i64 K, .int .i64 (j : Int), .string TX, .int .i64 N], HP.obj g5 37 [.string s, .int .i64 (EN : Int)]] := (HS.cells_ (d := kWd) (x := (⟨K, j, TX.toList, N⟩ : Wd)) (cs := [.int .i64 K, .int .i64 (j : Int), .string TX, .int .i64 N]) (HMK.out _)).mv 3)
                  | ((with_reducible refine gate_dst (N := 81) rfl ?_); at_builtin; refine ev_append kWd rfl (.tmp 78) (.tmp 80) 22 28 _ 40 rfl Tryd.underlying22 infoWd rfl (by decide) (by omega) (.slice A6 acc.length c6) acc (⟨K, j, TX.toList, N⟩ : Wd) [.int .i64 K, .int .i64 (j : Int), .string TX, .int .i64 N] rfl rfl HA (by omega) ?_; intro v3 w10 H5; clear HA HS p0 p1 p2 p3))
                have HE5 := (H5.mv 2).cell 1
                have hlt : s.size - (atOf g5 w10).toNat < s.size - (atOf g5 wr).toNat := by
                  rw [atOf_at HE5, atOf_at HWR.out]
                  omega
                have HLT := Aside0.mk hlt
                clear hlt HE5
                go_roundw
                case rel => exact ⟨EN, acc ++ [(⟨K, j, TX.toList, N⟩ : Wd)], by omega, by simp; omega, HST, H5.out 1⟩
                case measure => exact HLT.out
              · have htok : tok c r = .error E := by
                  rcases HCase.out with ⟨h, _⟩ | ⟨_, h⟩
                  · exact absurd h hE
                  · exact h
                have hstep := step_err i (s.toList.drop i) acc c r (HDW.out.trans HCR.out) E htok
                rw [HJ.out, ← HX.out] at hstep
                subst hstep
                have hEb : (E == 0) = false := by rw [beq_eq_false_iff_ne]; exact hE
                clear htok HX HWP HCase HCR HDW HJ hE
                go_wp2_with (first
                  | ((with_reducible refine gate_dst (N := 9) rfl ?_); refine ev_box ?hg (N := 9) ?hd (cs := [.int .i64 0, .int .i64 0, .string ⟨#[]⟩, .int .i64 0]) (t := 28) HS ?hr ?_; (case hd => rfl); (case hg => rfl); (case hr => first | (go_simp; done) | (go_simp; rfl)); intro g9 w8 HS_ hg_; clear HS; have HS := HS_; clear HS_; have p0 := HS.cell 0; have p1 := HS.cell 1; have p2 := HS.cell 2; have p3 := HS.cell 3)
                  | ((with_reducible refine gate_ (.store 28 (.tmp 9) (.tmp 71)) rfl ?_); refine ev_store rfl rfl 28 (.tmp 9) (.tmp 71) rfl HS (g := g9) (j := 0) rfl rfl (seg := [.int .i64 K, .int .i64 (j : Int), .string TX, .int .i64 N]) rfl ?ht rfl ?hf ?_; (case ht => kernel_rfl); (case hf => first | (simp; done) | (simp [splice]; done)); intro w9 HS_; clear HS p0 p1 p2 p3; have HS : St w S w9 [HP.obj g9 28 [.int .i64 K, .int .i64 (j : Int), .string TX, .int .i64 N], HP.obj g5 37 [.string s, .int .i64 (EN : Int)], HP.row kWd 28 (.slice A6 acc.length c6) acc] := HS_; clear HS_; have p0 := HS.cell 0; have p1 := HS.cell 1; have p2 := HS.cell 2; have p3 := HS.cell 3))
                refine start_ (n := 6) (S := fun w' => w'.cell? ⟨g9, 1, none⟩ = some (.int .i64 (j : Int))) (ds := []) #[false, false, false, false, false, false] (by kernel_rfl) rfl rfl (HS.drew.cell 1) (fun hHeld => ?_)
                refine pure_ (i := 0) (N := some 75) (v := ?_) (a' := ?_) #[true, false, false, false, false, false] rfl rfl (by kernel_rfl) (fun _ _ _ h => h) (Or.inl ⟨by rfl, ?_⟩) ?_ ?_
                rotate_left
                · intro w'
                  go_simp
                  with_reducible rfl
                rotate_left
                · simp only [Act.put, List.setIfInBounds_toArray, List.set_cons_zero, List.set_cons_succ, i64_w, i32_w]
                  rfl
                refine pure_ (i := 2) (N := some 77) (v := ?_) (a' := ?_) #[true, false, true, false, false, false] rfl rfl (by kernel_rfl) (fun _ _ _ h => h) (Or.inl ⟨by rfl, ?_⟩) ?_ ?_
                rotate_left
                · intro w'
                  go_simp
                  with_reducible rfl
                rotate_left
                · simp only [Act.put, List.setIfInBounds_toArray, List.set_cons_zero, List.set_cons_succ, i64_w, i32_w]
                  rfl
                refine pure_ (i := 3) (N := some 2) (v := ?_) (a' := ?_) #[true, false, true, true, false, false] rfl rfl (by kernel_rfl) (fun _ _ _ h => h) (Or.inl ⟨by rfl, ?_⟩) ?_ ?_
                rotate_left
                · intro w'
                  go_simp
                  with_reducible rfl
                rotate_left
                · simp only [Act.put, List.setIfInBounds_toArray, List.set_cons_zero, List.set_cons_succ, i64_w, i32_w]
                  rfl
                refine take_ (i := 1) (N := some 76) (v := ?_) (a' := ?_) #[true, true, true, true, false, false] rfl rfl (by kernel_rfl) (fun _ _ _ h => h) (Or.inl ⟨by rfl, ?_⟩) hHeld ?_ ?_
                rotate_left
                · intro w' s0
                  go_simp
                  with_reducible rfl
                rotate_left
                · simp only [Act.put, List.setIfInBounds_toArray, List.set_cons_zero, List.set_cons_succ, i64_w, i32_w]
                  rfl
                refine pure_ (i := 4) (N := some 3) (v := ?_) (a' := ?_) #[true, true, true, true, true, false] rfl rfl (by kernel_rfl) (fun _ _ _ h => h) (Or.inl ⟨by rfl, ?_⟩) ?_ ?_
                rotate_left
                · intro w'
                  go_simp
                  with_reducible rfl
                rotate_left
                · simp only [Act.put, List.setIfInBounds_toArray, List.set_cons_zero, List.set_cons_succ, i64_w, i32_w]
                  rfl
                refine pure_ (i := 5) (N := some 4) (v := ?_) (a' := ?_) #[true, true, true, true, true, true] rfl rfl (by kernel_rfl) (fun _ _ _ h => h) (Or.inl ⟨by rfl, ?_⟩) ?_ ?_
                rotate_left
                · intro w'
                  go_simp
                  with_reducible rfl
                rotate_left
                · simp only [Act.put, List.setIfInBounds_toArray, List.set_cons_zero, List.set_cons_succ, i64_w, i32_w]
                  rfl
                refine done_ (by kernel_rfl) ?_
                clear hHeld
                go_wp2_with fail
                refine bodyPost_ret (results_list (rs := [.tmp 2, .tmp 3, .tmp 4]) rfl (by simp) (.tmp (.tmp (.tmp .nil)))) rfl ?_
                exact ⟨_, rfl, St.ex_in (.slice none 0 0) (St.and_in rfl ((((HS.drew.out 0).out 0).out 0).nil_ kWd 28))⟩
        · rw [hlt] at HLt
          obtain ⟨K, TX, N, E, EN, hf, hcase⟩ := reads_let g5 s (by omega) j c r hcr hlt
          generalize hm : (c.toNat : Int) = m at hxx HLt HDg
          have HF := Aside0.mk hf
          have HCase := Aside0.mk hcase
          clear hm hf hcase hcr hlt h39 h45
          go_wp2_with (first
            | ((with_reducible refine gate_ (.store 3 (.tmp 25) (.tmp 23)) rfl ?_); refine ev_store rfl rfl 3 (.tmp 25) (.tmp 23) rfl HS (g := g5) (j := 1) rfl rfl (seg := [.int .i64 (j : Int)]) rfl ?ht rfl ?hf ?_; (case ht => kernel_rfl); (case hf => first | (simp; done) | (simp [splice]; done)); intro w6 HS_; clear HS q0 q1; have HS : St w S w6 [HP.obj g5 37 [.string s, .int .i64 (j : Int)], HP.row kWd 28 (.slice A6 acc.length c6) acc] := HS_; clear HS_; have q0 := HS.cell 0; have q1 := HS.cell 1)
            | (go_at_call 12; refine (HLt.out _).mono ?_; rintro e w' ⟨rfl, rfl⟩)
            | (go_at_call 14; refine (HDg.out _).mono ?_; rintro e w' ⟨rfl, rfl⟩))
          refine ((HF.out).call (F := [HP.row kWd 28 (.slice A6 acc.length c6) acc]) HS (fun w' _ e _ => HR.out w' e)).mono ?_
          rintro e_ w7 ⟨rfl, HS_⟩
          clear HS q0 q1
          have HS : St w S w7 [HP.obj g5 37 [.string s, .int .i64 (EN : Int)], HP.row kWd 28 (.slice A6 acc.length c6) acc] := HS_
          clear HS_
          by_cases hE : E = 0
          · subst hE
            obtain ⟨htok, hEN, hENs⟩ : tok c r = .ok (K, TX.toList, N, EN - j) ∧ j < EN ∧ EN ≤ s.size := by
              rcases HCase.out with ⟨_, h⟩ | ⟨h, _⟩
              · exact h
              · exact absurd rfl h
            have hstep := step_ok i (s.toList.drop i) acc c r (HDW.out.trans HCR.out) K TX.toList N (EN - j) htok
            rw [HJ.out, show j + (EN - j) = EN by omega, ← HCR.out, List.drop_drop, show j + (EN - j) = EN by omega, ← HX.out] at hstep
            have HST := Aside0.mk hstep
            clear htok hstep HX HWP HCase HCR HDW HJ
            have hle : (acc.length + 1) * 40 ≤ 140737488355328 := by omega
            have hmk : ∀ w : World, kWd.M w 0 (fun _ => False) (⟨K, j, TX.toList, N⟩ : Wd) [.int .i64 K, .int .i64 (j : Int), .string TX, .int .i64 N] := fun w => by
              have h := kWd_mkM w 0 (fun _ => False) (⟨K, j, TX.toList, N⟩ : Wd)
              rw [ba_eq] at h
              exact h
            have HMK := Aside0.mk hmk
            clear hmk
            go_wp2_with (first
              | ((with_reducible refine gate_dst (N := 9) rfl ?_); refine ev_box ?hg (N := 9) ?hd (cs := [.int .i64 0, .int .i64 0, .string ⟨#[]⟩, .int .i64 0]) (t := 28) HS ?hr ?_; (case hd => rfl); (case hg => rfl); (case hr => first | (go_simp; done) | (go_simp; rfl)); intro g9 w8 HS_ hg_; clear HS; have HS := HS_; clear HS_; have p0 := HS.cell 0; have p1 := HS.cell 1; have p2 := HS.cell 2; have p3 := HS.cell 3)
              | ((with_reducible refine gate_ (.store 28 (.tmp 9) (.tmp 71)) rfl ?_); refine ev_store rfl rfl 28 (.tmp 9) (.tmp 71) rfl HS (g := g9) (j := 0) rfl rfl (seg := [.int .i64 K, .int .i64 (j : Int), .string TX, .int .i64 N]) rfl ?ht rfl ?hf ?_; (case ht => kernel_rfl); (case hf => first | (simp; done) | (simp [splice]; done)); intro w9 HS_; clear HS p0 p1 p2 p3; have HS : St w S w9 [HP.obj g9 28 [.int .i64 K, .int .i64 (j : Int), .string TX, .int .i64 N], HP.obj g5 37 [.string s, .int .i64 (EN : Int)], HP.row kWd 28 (.slice A6 acc.length c6) acc] := HS_; clear HS_; have p0 := HS.cell 0; have p1 := HS.cell 1; have p2 := HS.cell 2; have p3 := HS.cell 3; have HA : St w S w9 [HP.row kWd 28 (.slice A6 acc.length c6) acc, HP.cells kWd (⟨K, j, TX.toList, N⟩ : Wd) [.int .i64 K, .int .i64 (j : Int), .string TX, .int .i64 N], HP.obj g9 28 [.int .i64 K, .int .i64 (j : Int), .string TX, .int .i64 N], HP.obj g5 37 [.string s, .int .i64 (EN : Int)]] := (HS.cells_ (d := kWd) (x := (⟨K, j, TX.toList, N⟩ : Wd)) (cs := [.int .i64 K, .int .i64 (j : Int), .string TX, .int .i64 N]) (HMK.out _)).mv 3)
              | ((with_reducible refine gate_dst (N := 81) rfl ?_); at_builtin; refine ev_append kWd rfl (.tmp 78) (.tmp 80) 22 28 _ 40 rfl Tryd.underlying22 infoWd rfl (by decide) (by omega) (.slice A6 acc.length c6) acc (⟨K, j, TX.toList, N⟩ : Wd) [.int .i64 K, .int .i64 (j : Int), .string TX, .int .i64 N] rfl rfl HA (by omega) ?_; intro v3 w10 H5; clear HA HS p0 p1 p2 p3))
            have HE5 := (H5.mv 2).cell 1
            have hlt : s.size - (atOf g5 w10).toNat < s.size - (atOf g5 wr).toNat := by
              rw [atOf_at HE5, atOf_at HWR.out]
              omega
            have HLT := Aside0.mk hlt
            clear hlt HE5
            go_roundw
            case rel => exact ⟨EN, acc ++ [(⟨K, j, TX.toList, N⟩ : Wd)], by omega, by simp; omega, HST, H5.out 1⟩
            case measure => exact HLT.out
          · have htok : tok c r = .error E := by
              rcases HCase.out with ⟨h, _⟩ | ⟨_, h⟩
              · exact absurd h hE
              · exact h
            have hstep := step_err i (s.toList.drop i) acc c r (HDW.out.trans HCR.out) E htok
            rw [HJ.out, ← HX.out] at hstep
            subst hstep
            have hEb : (E == 0) = false := by rw [beq_eq_false_iff_ne]; exact hE
            clear htok HX HWP HCase HCR HDW HJ hE
            go_wp2_with (first
              | ((with_reducible refine gate_dst (N := 9) rfl ?_); refine ev_box ?hg (N := 9) ?hd (cs := [.int .i64 0, .int .i64 0, .string ⟨#[]⟩, .int .i64 0]) (t := 28) HS ?hr ?_; (case hd => rfl); (case hg => rfl); (case hr => first | (go_simp; done) | (go_simp; rfl)); intro g9 w8 HS_ hg_; clear HS; have HS := HS_; clear HS_; have p0 := HS.cell 0; have p1 := HS.cell 1; have p2 := HS.cell 2; have p3 := HS.cell 3)
              | ((with_reducible refine gate_ (.store 28 (.tmp 9) (.tmp 71)) rfl ?_); refine ev_store rfl rfl 28 (.tmp 9) (.tmp 71) rfl HS (g := g9) (j := 0) rfl rfl (seg := [.int .i64 K, .int .i64 (j : Int), .string TX, .int .i64 N]) rfl ?ht rfl ?hf ?_; (case ht => kernel_rfl); (case hf => first | (simp; done) | (simp [splice]; done)); intro w9 HS_; clear HS p0 p1 p2 p3; have HS : St w S w9 [HP.obj g9 28 [.int .i64 K, .int .i64 (j : Int), .string TX, .int .i64 N], HP.obj g5 37 [.string s, .int .i64 (EN : Int)], HP.row kWd 28 (.slice A6 acc.length c6) acc] := HS_; clear HS_; have p0 := HS.cell 0; have p1 := HS.cell 1; have p2 := HS.cell 2; have p3 := HS.cell 3))
            refine start_ (n := 6) (S := fun w' => w'.cell? ⟨g9, 1, none⟩ = some (.int .i64 (j : Int))) (ds := []) #[false, false, false, false, false, false] (by kernel_rfl) rfl rfl (HS.drew.cell 1) (fun hHeld => ?_)
            refine pure_ (i := 0) (N := some 75) (v := ?_) (a' := ?_) #[true, false, false, false, false, false] rfl rfl (by kernel_rfl) (fun _ _ _ h => h) (Or.inl ⟨by rfl, ?_⟩) ?_ ?_
            rotate_left
            · intro w'
              go_simp
              with_reducible rfl
            rotate_left
            · simp only [Act.put, List.setIfInBounds_toArray, List.set_cons_zero, List.set_cons_succ, i64_w, i32_w]
              rfl
            refine pure_ (i := 2) (N := some 77) (v := ?_) (a' := ?_) #[true, false, true, false, false, false] rfl rfl (by kernel_rfl) (fun _ _ _ h => h) (Or.inl ⟨by rfl, ?_⟩) ?_ ?_
            rotate_left
            · intro w'
              go_simp
              with_reducible rfl
            rotate_left
            · simp only [Act.put, List.setIfInBounds_toArray, List.set_cons_zero, List.set_cons_succ, i64_w, i32_w]
              rfl
            refine pure_ (i := 3) (N := some 2) (v := ?_) (a' := ?_) #[true, false, true, true, false, false] rfl rfl (by kernel_rfl) (fun _ _ _ h => h) (Or.inl ⟨by rfl, ?_⟩) ?_ ?_
            rotate_left
            · intro w'
              go_simp
              with_reducible rfl
            rotate_left
            · simp only [Act.put, List.setIfInBounds_toArray, List.set_cons_zero, List.set_cons_succ, i64_w, i32_w]
              rfl
            refine take_ (i := 1) (N := some 76) (v := ?_) (a' := ?_) #[true, true, true, true, false, false] rfl rfl (by kernel_rfl) (fun _ _ _ h => h) (Or.inl ⟨by rfl, ?_⟩) hHeld ?_ ?_
            rotate_left
            · intro w' s0
              go_simp
              with_reducible rfl
            rotate_left
            · simp only [Act.put, List.setIfInBounds_toArray, List.set_cons_zero, List.set_cons_succ, i64_w, i32_w]
              rfl
            refine pure_ (i := 4) (N := some 3) (v := ?_) (a' := ?_) #[true, true, true, true, true, false] rfl rfl (by kernel_rfl) (fun _ _ _ h => h) (Or.inl ⟨by rfl, ?_⟩) ?_ ?_
            rotate_left
            · intro w'
              go_simp
              with_reducible rfl
            rotate_left
            · simp only [Act.put, List.setIfInBounds_toArray, List.set_cons_zero, List.set_cons_succ, i64_w, i32_w]
              rfl
            refine pure_ (i := 5) (N := some 4) (v := ?_) (a' := ?_) #[true, true, true, true, true, true] rfl rfl (by kernel_rfl) (fun _ _ _ h => h) (Or.inl ⟨by rfl, ?_⟩) ?_ ?_
            rotate_left
            · intro w'
              go_simp
              with_reducible rfl
            rotate_left
            · simp only [Act.put, List.setIfInBounds_toArray, List.set_cons_zero, List.set_cons_succ, i64_w, i32_w]
              rfl
            refine done_ (by kernel_rfl) ?_
            clear hHeld
            go_wp2_with fail
            refine bodyPost_ret (results_list (rs := [.tmp 2, .tmp 3, .tmp 4]) rfl (by simp) (.tmp (.tmp (.tmp .nil)))) rfl ?_
            exact ⟨_, rfl, St.ex_in (.slice none 0 0) (St.and_in rfl ((((HS.drew.out 0).out 0).out 0).nil_ kWd 28))⟩
end Go.Proofs.YtkjfecpfjfkpnaaDoor.Lex
