/- The document's Keys, walked. -/
import Derived.Test.YtepenfgeeggjmaaLogW
namespace Go.Proofs.Ytepenfgeeggjmaa.Ver
open Go.RowKit Go.Proofs.YtepenfgeeggjmaaW.PrintWords Go.Proofs.YtepenfgeeggjmaaW.PrintLast Go.Proofs.YtepenfgeeggjmaaW.PrintMore Go.Proofs.Ytepenfgeeggjmaa.Sl Go.Proofs.Ytepenfgeeggjmaa.Str Go.Proofs.Ytepenfgeeggjmaa.Row
set_option linter.unusedVariables false
set_option linter.unusedSimpArgs false
theorem kAt_eq (k : ByteArray) : ∀ (ks : List ByteArray) (i : Nat) (hi : i ≤ ks.length) (h1 : ∀ j (hj : j < i), cmpS (ks[j]'(by omega)) k < 0) (h2 : ∀ h : i < ks.length, ¬ cmpS ks[i] k < 0), kAt ks k = i
  | [], i, hi, h1, h2 => by simp at hi; subst hi; rfl
  | x :: ks, 0, hi, h1, h2 => by
    have := h2 (by simp)
    unfold kAt
    rw [List.takeWhile_cons_of_neg (by simpa using this)]
    rfl
  | x :: ks, i + 1, hi, h1, h2 => by
    have h0 := h1 0 (by omega)
    have ih := kAt_eq k ks i (by simpa using hi) (fun j hj => h1 (j + 1) (by omega)) (fun h => h2 (by simpa using h))
    unfold kAt at ih ⊢
    rw [List.takeWhile_cons_of_pos (by simpa using h0), List.length_cons, ih]
theorem kIs_in (ks : List ByteArray) (k x : ByteArray) (hi : kAt ks k < ks.length) (hx : ks[kAt ks k] = x) : kIs ks k = (x.toList == k.toList) := by
  unfold kIs
  rw [List.getElem?_eq_getElem hi, hx, beq_cmp]
  rfl
theorem kIs_out (ks : List ByteArray) (k : ByteArray) (hi : kAt ks k = ks.length) : kIs ks k = false := by
  unfold kIs
  rw [List.getElem?_eq_none (by omega)]
theorem keysL_take (log : Log) (j : Nat) (hj : j < log.length) : keysL (log.take (j + 1)) = insKey (keysL (log.take j)) log[j].1 := by
  rw [List.take_succ_eq_append_getElem hj]
  exact keysL_snoc _ _ _
theorem keysL_len (log : Log) : (keysL log).length ≤ log.length := by
  unfold keysL
  have : ∀ (log : Log) (ks : List ByteArray), (log.foldl (fun ks p => insKey ks p.1) ks).length ≤ ks.length + log.length := by
    intro log
    induction log with
    | nil => intro ks; simp
    | cons p log ih =>
      intro ks
      have h1 := ih (insKey ks p.1)
      have h2 : (insKey ks p.1).length ≤ ks.length + 1 := by
        unfold insKey
        split
        · omega
        · rw [List.length_append, List.length_cons, List.length_take, List.length_drop]
          have : kAt ks p.1 ≤ ks.length := (List.takeWhile_prefix _).length_le
          omega
      rw [List.foldl_cons, List.length_cons]
      omega
  simpa using this log []
theorem keysL_mem (log : Log) : ∀ k ∈ keysL log, ∃ p ∈ log, p.1 = k := by
  have : ∀ (log : Log) (ks : List ByteArray), ∀ k ∈ log.foldl (fun ks p => insKey ks p.1) ks, k ∈ ks ∨ ∃ p ∈ log, p.1 = k := by
    intro log
    induction log with
    | nil => intro ks k hk; exact .inl hk
    | cons p log ih =>
      intro ks k hk
      rcases ih (insKey ks p.1) k hk with h | ⟨q, hq, e⟩
      · rcases mem_insKey _ _ _ h with h | rfl
        · exact .inl h
        · exact .inr ⟨p, by simp, rfl⟩
      · exact .inr ⟨q, by simp [hq], e⟩
  intro k hk
  rcases this log [] k hk with h | h
  · simp at h
  · exact h
theorem infoStr : (Try.prog.info? 9).map (fun i => (i.zero, i.size, i.bytes)) = some (some (.string ⟨#[]⟩), 1, 16) := by kernel_rfl
theorem flatStr : Flat Kd.string := fun _ _ _ _ h => h
theorem infoStr1 : ∃ i, Try.prog.info? 9 = some i ∧ i.size = 1 := by
  have h := infoStr
  cases hi : Try.prog.info? 9 with
  | none => rw [hi] at h; cases h
  | some i =>
    rw [hi] at h
    simp only [Option.map_some, Option.some.injEq, Prod.mk.injEq] at h
    exact ⟨i, rfl, h.2.1⟩
theorem str_cell {w0 w : World} {S0 : Nat → Prop} {F : List HP} {g n c : Nat} {xs : List ByteArray} (h : St w0 S0 w (HP.row Kd.string 9 (.slice (some ⟨g, 0, none⟩) n c) xs :: F)) (j : Nat) (hj : j < xs.length) : w.cell? ⟨g, j, none⟩ = some (.string xs[j]) := by
  have := flat_cell (enc := fun s : ByteArray => [Value.string s]) (fun h => h) h j hj 0 (by simp)
  rw [show j * Kd.string.sz + 0 = j from by show j * 1 + 0 = j; omega] at this
  exact this
set_option maxHeartbeats 4000000 in
set_option maxRecDepth 20000 in
theorem refKeys_fun (g : Nat) (u : Value) (log : Log) (hl : log.length ≤ 1000000) (hsz : ∀ p ∈ log, p.1.size ≤ 140737488355328) :
    Fun Try.prog 28 #[.pointer (some ⟨g, 0, none⟩)] (fun _ => True) [logH g u log] (fun r => [HP.row Kd.string 9 r (keysL log), logH g u log]) := by
  intro w S hS hR
  have HS := ((logH_open (St.start hS)).nil_ Kd.string 9)
  clear hS hR
  have hu45 := Try.underlying45
  have hu43 := Try.underlying43
  have hu68 := Try.underlying68
  have hu71 := Try.underlying71
  obtain ⟨A, c, rfl, hc, hC⟩ := St.row_C (HS.mv 2)
  have HZ := Aside0.mk hsz
  clear hC hsz
  go_enter Try.func28, Try.ntmps28
  go_wp2_with fail
  go_loopw [3, 4] (fun v3 v4 w' => ∃ j : Nat, j ≤ log.length ∧ v4 = .int .i64 j ∧ St w S w' [HP.row Kd.string 9 v3 (keysL (log.take j)), HP.obj g 45 [.slice A log.length c], HP.row kOne 68 (.slice A log.length c) log]) (fun _ v4 _ => log.length - (intOf v4).toNat)
  case atStart => exact ⟨0, Nat.zero_le _, rfl, HS⟩
  case round =>
    clear HS
    obtain ⟨j, hj, rfl, HS⟩ := hrel
    have q0 : wr.cell? ⟨g, 0, none⟩ = some (.slice A log.length c) := (HS.mv 1).cell 0
    by_cases hlt : j < log.length
    · have hltI : (j : Int) < (log.length : Int) := by omega
      have hj0 : (0 : Int) ≤ (j : Int) := by omega
      have hjd : decide ((j : Int) < (log.length : Int)) = true := decide_eq_true hltI
      obtain ⟨g3, c3, ev⟩ := St.row_form (HS.mv 2) (by omega)
      obtain ⟨rfl, -, rfl⟩ : A = some ⟨g3, 0, none⟩ ∧ log.length = log.length ∧ c = c3 := by simpa using ev
      clear ev
      obtain ⟨i0, i1, i2, i3⟩ := one_cells (HS.mv 2) j hlt
      clear i1 i2 i3
      have hnx := keysL_take log j hlt
      have hkl := keysL_len (log.take j)
      rw [List.length_take] at hkl
      have hks := Aside0.mk (show ∀ k ∈ keysL (log.take j), k.size ≤ 140737488355328 from fun k hk => by
        obtain ⟨p, hp, rfl⟩ := keysL_mem _ k hk
        exact HZ.out p (List.mem_of_mem_take hp))
      obtain ⟨k, hk⟩ : ∃ k, log[j].1 = k := ⟨_, rfl⟩
      rw [hk] at i0 hnx
      have HNX := Aside0.mk hnx
      clear hk hnx
      generalize keysL (log.take j) = ks at HS hkl hks HNX
      obtain ⟨B, d, rfl, hd, hC⟩ := St.row_C HS
      clear hC
      go_upto_block 2 with (fail)
      clear q0 i0
      go_cut [6] (fun v6 wc => v6 = .int .i64 (kAt ks k : Nat) ∧ St w S wc [HP.row Kd.string 9 (.slice B ks.length d) ks, HP.obj g 45 [.slice (some ⟨g3, 0, none⟩) log.length c], HP.row kOne 68 (.slice (some ⟨g3, 0, none⟩) log.length c) log])
      case first =>
        go_wp2_with fail
        go_loopw [6] (fun v6 w' => ∃ i : Nat, i ≤ ks.length ∧ v6 = .int .i64 i ∧ Aside0 (∀ q (h : q < i) (h2 : q < ks.length), cmpS ks[q] k < 0) ∧ St w S w' [HP.row Kd.string 9 (.slice B ks.length d) ks, HP.obj g 45 [.slice (some ⟨g3, 0, none⟩) log.length c], HP.row kOne 68 (.slice (some ⟨g3, 0, none⟩) log.length c) log]) (fun v6 _ => ks.length - (intOf v6).toNat)
        case atStart => exact ⟨0, Nat.zero_le _, rfl, ⟨fun q h => by omega⟩, HS⟩
        case round =>
          clear HS
          obtain ⟨i, hi, rfl, HA, HS⟩ := hrel
          by_cases hil : i < ks.length
          · have hilI : (i : Int) < (ks.length : Int) := by omega
            have hi0 : (0 : Int) ≤ (i : Int) := by omega
            have hid : decide ((i : Int) < (ks.length : Int)) = true := decide_eq_true hilI
            obtain ⟨g4, c4, ev⟩ := St.row_form HS (by omega)
            obtain ⟨rfl, -, rfl⟩ : B = some ⟨g4, 0, none⟩ ∧ ks.length = ks.length ∧ d = c4 := by simpa using ev
            clear ev
            have p0 := str_cell HS i hil
            have hxs := hks.out ks[i] (List.getElem_mem hil)
            obtain ⟨x, hx⟩ : ∃ x, ks[i] = x := ⟨_, rfl⟩
            rw [hx] at p0 hxs
            have HX := Aside0.mk hx
            clear hx
            go_wp2_with fail
            refine (Stands.stands_calls x k hxs _).mono ?_
            rintro e_ w5 ⟨rfl, hdr⟩
            have H5 := HS.drawn hdr
            clear HS hdr p0
            by_cases hcm : cmpS x k < 0
            · have hcd : decide (cmpS x k < 0) = true := decide_eq_true hcm
              have hnA := Aside0.mk (show ∀ q (h : q < i + 1) (h2 : q < ks.length), cmpS ks[q] k < 0 from fun q h h2 => by
                by_cases e : q = i
                · subst e; rw [HX.out]; exact hcm
                · exact HA.out q (by omega) h2)
              go_wp2
              go_roundw
              case rel => exact ⟨i + 1, by omega, by go_num, hnA, H5⟩
              case measure => simp [intOf]; omega
            · have hcd : decide (cmpS x k < 0) = false := decide_eq_false hcm
              have HKA := Aside0.mk (show kAt ks k = i from kAt_eq k ks i hi (fun q hq => HA.out q hq (by omega)) (fun h => by rw [HX.out]; exact hcm))
              go_wp2
              go_meet
              exact ⟨by rw [HKA.out], H5⟩
          · have hie : i = ks.length := by omega
            subst hie
            have hid : decide ((ks.length : Int) < (ks.length : Int)) = false := decide_eq_false (by omega)
            have HKA := Aside0.mk (show kAt ks k = ks.length from kAt_eq k ks ks.length (Nat.le_refl _) (fun q hq => HA.out q hq (by omega)) (fun h => by omega))
            go_wp2
            go_meet
            exact ⟨by rw [HKA.out], HS⟩
      case rest =>
        clear HS
        obtain ⟨rfl, HS⟩ := hcut
        have hkl2 : kAt ks k ≤ ks.length := (List.takeWhile_prefix _).length_le
        have hka0 : (0 : Int) ≤ (kAt ks k : Int) := by omega
        go_upto_region 9 with (fail)
        go_cut [51] (fun v51 wc => v51 = .bool (kIs ks k) ∧ St w S wc [HP.row Kd.string 9 (.slice B ks.length d) ks, HP.obj g 45 [.slice (some ⟨g3, 0, none⟩) log.length c], HP.row kOne 68 (.slice (some ⟨g3, 0, none⟩) log.length c) log])
        case first =>
          by_cases hil : kAt ks k < ks.length
          · have hilI : (kAt ks k : Int) < (ks.length : Int) := by omega
            have hid : decide ((kAt ks k : Int) < (ks.length : Int)) = true := decide_eq_true hilI
            obtain ⟨g4, c4, ev⟩ := St.row_form HS (by omega)
            obtain ⟨rfl, -, rfl⟩ : B = some ⟨g4, 0, none⟩ ∧ ks.length = ks.length ∧ d = c4 := by simpa using ev
            clear ev
            have p0 := str_cell HS (kAt ks k) hil
            have HKB := Aside0.mk (kIs_in ks k _ hil rfl)
            go_wp2
            go_meet
            exact ⟨by first | (rw [HKB.out]; done) | (rw [HKB.out]; simp), HS⟩
          · have hie : kAt ks k = ks.length := by omega
            have HKB := Aside0.mk (kIs_out ks k hie)
            have hid : decide ((kAt ks k : Int) < (ks.length : Int)) = false := decide_eq_false (by omega)
            clear hie
            go_wp2
            go_meet
            exact ⟨by rw [HKB.out], HS⟩
        case rest =>
        clear HS
        obtain ⟨rfl, HS⟩ := hcut
        cases hki : kIs ks k
        · have hin : keysL (log.take (j + 1)) = ks.take (kAt ks k) ++ k :: ks.drop (kAt ks k) := by rw [HNX.out]; unfold insKey; rw [hki]; rfl
          generalize kAt ks k = m at hkl2 hin HS ⊢
          have HIN := Aside0.mk hin
          clear hin hki HNX
          obtain ⟨ti, hti, hts⟩ := infoStr1
          have hm0 : (0 : Int) ≤ (m : Int) := by omega
          have hs1 : ∀ W : World, (Instr.slice 71 (.slice B ks.length d) none (some (.int .i64 (m : Int))) none).run Try.prog W = .ok (.slice B m d) W := by
            have := cut_to 71 9 .i64 Try.underlying71 hti B ks.length d (m : Int) hm0 (by omega) hd
            simpa using this
          obtain ⟨B2, hB2⟩ : ∃ B2, (if d = m then B else B.map (·.add (m * 1))) = B2 := ⟨_, rfl⟩
          have hs2 : ∀ W : World, (Instr.slice 71 (.slice B ks.length d) (some (.int .i64 (m : Int))) none none).run Try.prog W = .ok (.slice B2 (ks.length - m) (d - m)) W := by
            have := cut_from 71 9 .i64 Try.underlying71 hti 1 hts B ks.length d (m : Int) hm0 (by omega)
            rw [← hB2]
            simpa using this
          have hlt1 : (ks.take m).length = m := by rw [List.length_take]; omega
          have hld1 : (ks.drop m).length = ks.length - m := List.length_drop
          have HB2 := Aside0.mk hB2
          clear hti hts hB2
          have H1 := HS.nil_ Kd.string 9
          clear HS
          go_wp2_with (first
            | ((with_reducible refine gate_dst (N := 56) rfl ?_); at_builtin; refine ev_rows Kd.string flatStr rfl (.tmp 52) (.tmp 55) 71 9 _ 16 rfl Try.underlying71 infoStr rfl (by decide) (by omega) (.slice none 0 0) [] (ks.take m) B d rfl (by rw [hlt1]; rfl) H1 ?hc ?hl ?_; (case hc => exact Kd.C_take (St.row_reads (H1.mv 1)).2.2 hkl2); (case hl => (simp only [List.length_nil, hlt1]; omega)); intro v7 w7 H2; rw [List.nil_append] at H2; clear H1)
            | ((with_reducible refine gate_dst (N := 59) rfl ?_); refine ev_lit Kd.string 9 ?hg (N := 59) ?hd (xs := [k]) (inner := [.string k]) H2 ?hr ?hp (by simp) ?_; (case hd => rfl); (case hg => rfl); (case hr => first | (go_simp; done) | (go_simp; rfl)); (case hp => exact reps1_ (R := Kd.string.M _ 0 _) (n := 1) (by exact rfl) rfl); intro v8 w8 H3; clear H2; obtain ⟨B8, d8, rfl, hd8, hC8⟩ := St.row_C H3; clear hC8)
            | ((with_reducible refine gate_dst (N := 60) rfl ?_); at_builtin; refine ev_rows Kd.string flatStr rfl (.tmp 57) (.tmp 59) 71 9 _ 16 rfl Try.underlying71 infoStr rfl (by decide) (by omega) v7 (ks.take m) [k] B8 d8 rfl rfl (H3.mv 1) ?hc ?hl ?_; (case hc => exact (St.row_reads H3).2.2); (case hl => (simp only [List.length_singleton, hlt1]; omega)); intro v9 w9 H4; clear H3)
            | ((with_reducible refine gate_dst (N := 65) rfl ?_); at_builtin; refine ev_rows Kd.string flatStr rfl (.tmp 61) (.tmp 64) 71 9 _ 16 rfl Try.underlying71 infoStr rfl (by decide) (by omega) v9 (ks.take m ++ [k]) (ks.drop m) B2 (d - m) rfl (by rw [hld1]; rfl) H4 ?hc ?hl ?_; (case hc => rw [← HB2.out]; exact Kd.C_drop (St.row_reads (H4.mv 2)).2.2 hkl2 hd); (case hl => (simp only [List.length_append, List.length_singleton, hlt1, hld1]; omega)); intro v10 w10 H5; clear H4))
          go_roundw
          case rel => exact ⟨j + 1, by omega, by go_num, by rw [HIN.out, show ks.take m ++ k :: ks.drop m = (ks.take m ++ [k]) ++ ks.drop m by simp]; exact (H5.out 1).out 1⟩
          case measure => simp [intOf]; omega
        · have hin : keysL (log.take (j + 1)) = ks := by rw [HNX.out]; unfold insKey; rw [hki]; rfl
          have HIN := Aside0.mk hin
          clear hin hki HNX
          go_wp2
          go_roundw
          case rel => exact ⟨j + 1, by omega, by go_num, by rw [HIN.out]; exact HS⟩
          case measure => simp [intOf]; omega
    · obtain rfl : j = log.length := by omega
      have hjd : decide ((log.length : Int) < (log.length : Int)) = false := decide_eq_false (by omega)
      rw [List.take_length] at HS
      go_wp2
      go_ret
      exact ⟨_, rfl, (logH_shut (HS.mv 2 |>.mv 2)).mv 1⟩
end Go.Proofs.Ytepenfgeeggjmaa.Ver
