/- Layer 17: text, walked. -/
import Derived.Test.YtkjfecpfjfkpnaaDoorLexY
namespace Go.Proofs.YtkjfecpfjfkpnaaDoor.Lex
open Go.RowKit Go.Proofs.YtkjfecpfjfkpnaaDoorW.PrintWords Go.Proofs.YtkjfecpfjfkpnaaDoorW.PrintLast Go.Proofs.YtkjfecpfjfkpnaaDoorW.PrintMore Go.Proofs.YtkjfecpfjfkpnaaDoor.Sl Go.Proofs.YtkjfecpfjfkpnaaDoor.Str
set_option linter.unusedVariables false
set_option linter.unusedSimpArgs false
abbrev kU : Kd Int := Kd.int .u8
theorem infoU : (Tryd.prog.info? 5).map (fun i => (i.zero, i.size, i.bytes)) = some (some (.int .u8 0), 1, 1) := by kernel_rfl
def ba (l : List UInt8) : ByteArray := ⟨l.toArray⟩
theorem ba_toList (l : List UInt8) : (ba l).toList = l := by rw [toList_eq]; simp [ba]
theorem ba_size (l : List UInt8) : (ba l).size = l.length := by simp [ba, ByteArray.size]
theorem ba_eq (a : ByteArray) : ba a.toList = a := Str.ext _ _ (by rw [ba_toList])
def numsL (l : List UInt8) : List Int := l.map (fun c => (c.toNat : Int))
theorem strOfNums_numsL (l : List UInt8) : strOfNums (numsL l) = ba l := by
  simp [strOfNums, numsL, ba, List.map_map, Function.comp_def]
theorem numsL_length (l : List UInt8) : (numsL l).length = l.length := by simp [numsL]
theorem numsL_snoc (l : List UInt8) (c : UInt8) : numsL (l ++ [c]) = numsL l ++ [(c.toNat : Int)] := by simp [numsL]
theorem txtS_cons (c : UInt8) (h : c ≠ 39) (r : List UInt8) : txtS (c :: r) = (txtS r).map (fun y => (c :: y.1, y.2 + 1)) := by
  cases r with
  | nil => simp [txtS, h]
  | cons d r => simp [txtS, h]
/-- What text answers, of what is behind the quote at a: kind, text, error, where the lexer stands. -/
def txtA (a : Nat) : Option (List UInt8 × Nat) → Int × ByteArray × Int × Nat
  | none => (0, ⟨#[]⟩, 171, a)
  | some (t, k) => if t.length > 64 then (0, ⟨#[]⟩, 21, a + 1 + k) else (3, ba t, 0, a + 1 + k)
set_option maxHeartbeats 8000000 in
set_option maxRecDepth 40000 in
theorem text_fun (g : Nat) (s : ByteArray) (hs : s.size ≤ 1000000) (a : Nat) (ha : a < s.size) (x : Int × ByteArray × Int × Nat) (hx : txtA a (txtS (s.toList.drop (a + 1))) = x) :
    FunV Tryd.prog 16 #[.pointer (some ⟨g, 0, none⟩)] (fun _ => True) [HP.obj g 37 [.string s, .int .i64 (a : Int)]] (.tuple #[.agg #[.int .i64 x.1, .int .i64 (a : Int), .string x.2.1, .int .i64 0], .int .i64 x.2.2.1]) [HP.obj g 37 [.string s, .int .i64 (x.2.2.2 : Int)]] := by
  intro w S hS hR
  have HS := St.start hS
  have HX := Aside0.mk hx
  clear hS hR hx
  have hu := Tryd.underlying37
  have huW := Tryd.underlying28
  have huB := Tryd.underlying44
  have i3 : (a : Int) ≤ 1000000 := by omega
  have hw1 : IntKind.i64.wrap ((a : Int) + 1) = ((a + 1 : Nat) : Int) := by rw [IntWalk.i64_in _ (by omega)]; omega
  go_enter Tryd.func16, Tryd.ntmps16
  go_wp2_with (first
    | ((with_reducible refine gate_dst (N := 2) rfl ?_); refine ev_box ?hg (N := 2) ?hd (cs := [.int .i64 0, .int .i64 0, .string ⟨#[]⟩, .int .i64 0]) (t := 28) HS ?hr ?_; (case hd => rfl); (case hg => rfl); (case hr => first | (go_simp; done) | (go_simp; rfl)); intro g2 w1 HS_ hg_; clear HS; have HS := HS_; clear HS_; have q0 := (HS.mv 1).cell 0; have q1 := (HS.mv 1).cell 1))
  go_loopw [5, 6] (fun v5 v6 w' => ∃ (k : Nat) (acc : List UInt8), a + 1 ≤ k ∧ k ≤ s.size ∧ acc.length ≤ k ∧ v6 = .int .i64 k ∧ Aside0 (txtS (s.toList.drop (a + 1)) = (txtS (s.toList.drop k)).map (fun y => (acc ++ y.1, k - (a + 1) + y.2))) ∧ St w S w' [HP.row kU 5 v5 (numsL acc), HP.obj g2 28 [.int .i64 0, .int .i64 0, .string ⟨#[]⟩, .int .i64 0], HP.obj g 37 [.string s, .int .i64 (a : Int)]]) (fun _ v6 _ => s.size - (intOf v6).toNat)
  case atStart =>
    refine ⟨a + 1, [], by omega, by omega, by simp, rfl, ⟨?_⟩, ?_⟩
    · cases txtS (s.toList.drop (a + 1)) <;> simp
    · exact ((HS.nil_ kU 5))
  case round =>
    clear HS q0 q1 hw1
    obtain ⟨k, acc, hk1, hk, hal, rfl, HU, HS⟩ := hrel
    have hnl := numsL_length acc
    obtain ⟨A5, c5, rfl, hc5, -⟩ := St.row_C HS
    have q0 := (HS.mv 2).cell 0
    have q1 := (HS.mv 2).cell 1
    have hk0 : (0 : Int) ≤ (k : Int) := by omega
    by_cases hlt : k < s.size
    · have hltI : (k : Int) < (s.size : Int) := by omega
      have hwk : IntKind.i64.wrap ((k : Int) + 1) = (k : Int) + 1 := IntWalk.i64_in _ (by omega)
      have hwk2 : IntKind.i64.wrap ((k : Int) + 1 + 1) = (k : Int) + 1 + 1 := IntWalk.i64_in _ (by omega)
      have hd := drop_at s k hlt
      obtain ⟨c, hc⟩ : ∃ c : UInt8, s[k] = c := ⟨_, rfl⟩
      rw [hc] at hd
      have hx0 : ∀ h : k < s.size, ((s[k]'h).toNat : Int) = (c.toNat : Int) := fun h => by rw [← hc]
      by_cases h39 : c = 39
      · subst h39
        have hx0' : ∀ h : k < s.size, ((s[k]'h).toNat : Int) = 39 := hx0
        clear hx0 hc
        by_cases hlt2 : k + 1 < s.size
        · have hltI2 : (k : Int) + 1 < (s.size : Int) := by omega
          have hne2 : ((k : Int) + 1 == (s.size : Int)) = false := by
            rw [beq_eq_false_iff_ne]; omega
          have ht1 : ((k : Int) + 1).toNat = k + 1 := by omega
          have hk01 : (0 : Int) ≤ (k : Int) + 1 := by omega
          have hd2 := drop_at s (k + 1) hlt2
          obtain ⟨c2, hc2⟩ : ∃ c : UInt8, s[k + 1] = c := ⟨_, rfl⟩
          rw [hc2] at hd2
          rw [hd2] at hd
          have hx1 : ∀ h : k + 1 < s.size, ((s[k + 1]'h).toNat : Int) = (c2.toNat : Int) := fun h => by rw [← hc2]
          by_cases h2 : c2 = 39
          · subst h2
            have hx1' : ∀ h : k + 1 < s.size, ((s[k + 1]'h).toNat : Int) = 39 := hx1
            have HU2 := Aside0.mk (show txtS (s.toList.drop (a + 1)) = (txtS (s.toList.drop (k + 2))).map (fun y => ((acc ++ [39]) ++ y.1, k + 2 - (a + 1) + y.2)) by
              rw [HU.out, hd]
              simp only [txtS, if_true]
              cases txtS (s.toList.drop (k + 1 + 1)) with
              | none => rfl
              | some y => simp; omega)
            have HAP := Aside0.mk (numsL_snoc acc 39)
            have hle : (numsL acc).length + 1 ≤ 140737488355328 := by omega
            have HA : St w S wr [HP.row kU 5 (.slice A5 (numsL acc).length c5) (numsL acc), HP.cells kU 39 [.int .u8 39], HP.obj g2 28 [.int .i64 0, .int .i64 0, .string ⟨#[]⟩, .int .i64 0], HP.obj g 37 [.string s, .int .i64 (a : Int)]] := (HS.cells_ (d := kU) (x := 39) (cs := [.int .u8 39]) rfl).mv 1
            clear HS hd hd2 hc2 hx1 HU hnl
            generalize hna : numsL acc = na at HA hc5 hle HAP
            clear hna
            go_wp2_with (first
              | ((with_reducible refine gate_dst (N := 71) rfl ?_); at_builtin; refine ev_append kU rfl (.tmp 63) (.tmp 70) 44 5 _ 1 rfl Tryd.underlying44 infoU rfl (by decide) (by omega) (.slice A5 na.length c5) na 39 [.int .u8 39] rfl rfl HA (by omega) ?_; intro v3 w5 H5; clear HA q0 q1))
            go_roundw
            case rel => exact ⟨k + 2, acc ++ [39], by omega, by omega, by simp; omega, by go_num, HU2, by rw [HAP.out]; exact H5⟩
            case measure => simp [intOf]; omega
          · have hb2 : ((c2.toNat : Int) == 39) = false := by
              have : c2.toNat ≠ 39 := fun e => h2 (UInt8.toNat_inj.1 e)
              rw [beq_eq_false_iff_ne]; omega
            have hb3 : ((c2.toNat : Int) != 39) = true := by rw [bne, hb2]; rfl
            have HU2 := Aside0.mk (show txtS (s.toList.drop (a + 1)) = some (acc, k - (a + 1) + 1) by
              rw [HU.out, hd]
              simp [txtS, h2])
            clear hd hd2 hc2 HU h2
            generalize (c2.toNat : Int) = m2 at hx1 hb2 hb3
            have HY := HX.out
            rw [HU2.out] at HY
            have hek : a + 1 + (k - (a + 1) + 1) = k + 1 := by omega
            simp only [txtA, hek] at HY
            have hke : (k : Int) + 1 = ((k + 1 : Nat) : Int) := by omega
            have HKE := Aside0.mk hke
            clear HX HU2 hek hke
            have HAP := Aside0.mk (strOfNums_numsL acc)
            by_cases hlong : acc.length > 64
            · rw [if_pos hlong] at HY
              subst HY
              have hlI : ((numsL acc).length : Int) > 64 := by omega
              clear hnl hal
              generalize numsL acc = na at HS hc5 hlI HAP
              go_wp2_with (first
                | ((with_reducible refine gate_ (.store 3 (.tmp 51) (.tmp 49)) rfl ?_); refine ev_store rfl rfl 3 (.tmp 51) (.tmp 49) rfl (HS.mv 2) (g := g) (j := 1) rfl rfl (seg := [.int .i64 ((k : Int) + 1)]) rfl ?ht rfl ?hf ?_; (case ht => kernel_rfl); (case hf => first | (simp; done) | (simp [splice]; done)); intro w6 HS_; clear HS q0 q1; have HS : St w S w6 [HP.obj g 37 [.string s, .int .i64 ((k : Int) + 1)], HP.row kU 5 (.slice A5 na.length c5) na, HP.obj g2 28 [.int .i64 0, .int .i64 0, .string ⟨#[]⟩, .int .i64 0]] := HS_; clear HS_)
                | ((with_reducible refine gate_ (.store 28 (.tmp 2) (.tmp 56)) rfl ?_); refine ev_store rfl rfl 28 (.tmp 2) (.tmp 56) rfl (HS.mv 2) (g := g2) (j := 0) rfl rfl (seg := [.int .i64 0, .int .i64 (a : Int), .string ⟨#[]⟩, .int .i64 0]) rfl ?ht rfl ?hf ?_; (case ht => kernel_rfl); (case hf => first | (simp; done) | (simp [splice]; done)); intro w7 HS_; clear HS; have HS : St w S w7 [HP.obj g2 28 [.int .i64 0, .int .i64 (a : Int), .string ⟨#[]⟩, .int .i64 0], HP.obj g 37 [.string s, .int .i64 ((k : Int) + 1)], HP.row kU 5 (.slice A5 na.length c5) na] := HS_; clear HS_))
              have HB := HS.blk
              try simp only [Exit.inBlock, Exit.then]
              refine bodyPost_ret (results_ct rfl _ _ g2 28 #[.int .i64 0, .int .i64 (a : Int), .string ⟨#[]⟩, .int .i64 0] (0, 0) _ rfl HB Tryd.underlying28 rfl (by kernel_rfl)) rfl ?_
              refine ⟨rfl, ?_⟩
              have HT := (HS.out 0).out 1
              rw [HKE.out] at HT
              exact HT
            · rw [if_neg hlong] at HY
              subst HY
              have hlI : ¬ ((numsL acc).length : Int) > 64 := by omega
              clear hnl hal
              generalize numsL acc = na at HS hc5 hlI HAP
              go_wp2_with (first
                | ((with_reducible refine gate_ (.store 3 (.tmp 51) (.tmp 49)) rfl ?_); refine ev_store rfl rfl 3 (.tmp 51) (.tmp 49) rfl (HS.mv 2) (g := g) (j := 1) rfl rfl (seg := [.int .i64 ((k : Int) + 1)]) rfl ?ht rfl ?hf ?_; (case ht => kernel_rfl); (case hf => first | (simp; done) | (simp [splice]; done)); intro w6 HS_; clear HS q0 q1; have HS : St w S w6 [HP.obj g 37 [.string s, .int .i64 ((k : Int) + 1)], HP.row kU 5 (.slice A5 na.length c5) na, HP.obj g2 28 [.int .i64 0, .int .i64 0, .string ⟨#[]⟩, .int .i64 0]] := HS_; clear HS_; have hC := (St.row_reads (HS.mv 1)).2.2; have hcv := Kd.C_string (P := Tryd.prog) (src := 44) (dst := 9) (c := c5) Tryd.underlying44 Tryd.underlying5 Tryd.underlying9 hC; rw [HAP.out] at hcv; clear hC)
                | ((with_reducible refine gate_ (.store 28 (.tmp 2) (.tmp 60)) rfl ?_); refine ev_store rfl rfl 28 (.tmp 2) (.tmp 60) rfl (HS.mv 2) (g := g2) (j := 0) rfl rfl (seg := [.int .i64 3, .int .i64 (a : Int), .string (ba acc), .int .i64 0]) rfl ?ht rfl ?hf ?_; (case ht => kernel_rfl); (case hf => first | (simp; done) | (simp [splice]; done)); intro w7 HS_; clear HS; have HS : St w S w7 [HP.obj g2 28 [.int .i64 3, .int .i64 (a : Int), .string (ba acc), .int .i64 0], HP.obj g 37 [.string s, .int .i64 ((k : Int) + 1)], HP.row kU 5 (.slice A5 na.length c5) na] := HS_; clear HS_))
              have HB := HS.blk
              try simp only [Exit.inBlock, Exit.then]
              refine bodyPost_ret (results_ct rfl _ _ g2 28 #[.int .i64 3, .int .i64 (a : Int), .string (ba acc), .int .i64 0] (0, 0) _ rfl HB Tryd.underlying28 rfl (by kernel_rfl)) rfl ?_
              refine ⟨rfl, ?_⟩
              have HT := (HS.out 0).out 1
              rw [HKE.out] at HT
              exact HT
        · have hne2 : ((k : Int) + 1 == (s.size : Int)) = true := by
            rw [beq_iff_eq]; omega
          have HU2 := Aside0.mk (show txtS (s.toList.drop (a + 1)) = some (acc, k - (a + 1) + 1) by
            rw [HU.out, hd, List.drop_eq_nil_of_le (by rw [size_toList]; omega)]
            simp [txtS])
          clear hd HU
          have HY := HX.out
          rw [HU2.out] at HY
          have hek : a + 1 + (k - (a + 1) + 1) = k + 1 := by omega
          simp only [txtA, hek] at HY
          have hke : (k : Int) + 1 = ((k + 1 : Nat) : Int) := by omega
          have HKE := Aside0.mk hke
          clear HX HU2 hek hke
          have HAP := Aside0.mk (strOfNums_numsL acc)
          by_cases hlong : acc.length > 64
          · rw [if_pos hlong] at HY
            subst HY
            have hlI : ((numsL acc).length : Int) > 64 := by omega
            clear hnl hal
            generalize numsL acc = na at HS hc5 hlI HAP
            go_wp2_with (first
              | ((with_reducible refine gate_ (.store 3 (.tmp 51) (.tmp 49)) rfl ?_); refine ev_store rfl rfl 3 (.tmp 51) (.tmp 49) rfl (HS.mv 2) (g := g) (j := 1) rfl rfl (seg := [.int .i64 ((k : Int) + 1)]) rfl ?ht rfl ?hf ?_; (case ht => kernel_rfl); (case hf => first | (simp; done) | (simp [splice]; done)); intro w6 HS_; clear HS q0 q1; have HS : St w S w6 [HP.obj g 37 [.string s, .int .i64 ((k : Int) + 1)], HP.row kU 5 (.slice A5 na.length c5) na, HP.obj g2 28 [.int .i64 0, .int .i64 0, .string ⟨#[]⟩, .int .i64 0]] := HS_; clear HS_)
              | ((with_reducible refine gate_ (.store 28 (.tmp 2) (.tmp 56)) rfl ?_); refine ev_store rfl rfl 28 (.tmp 2) (.tmp 56) rfl (HS.mv 2) (g := g2) (j := 0) rfl rfl (seg := [.int .i64 0, .int .i64 (a : Int), .string ⟨#[]⟩, .int .i64 0]) rfl ?ht rfl ?hf ?_; (case ht => kernel_rfl); (case hf => first | (simp; done) | (simp [splice]; done)); intro w7 HS_; clear HS; have HS : St w S w7 [HP.obj g2 28 [.int .i64 0, .int .i64 (a : Int), .string ⟨#[]⟩, .int .i64 0], HP.obj g 37 [.string s, .int .i64 ((k : Int) + 1)], HP.row kU 5 (.slice A5 na.length c5) na] := HS_; clear HS_))
            have HB := HS.blk
            try simp only [Exit.inBlock, Exit.then]
            refine bodyPost_ret (results_ct rfl _ _ g2 28 #[.int .i64 0, .int .i64 (a : Int), .string ⟨#[]⟩, .int .i64 0] (0, 0) _ rfl HB Tryd.underlying28 rfl (by kernel_rfl)) rfl ?_
            refine ⟨rfl, ?_⟩
            have HT := (HS.out 0).out 1
            rw [HKE.out] at HT
            exact HT
          · rw [if_neg hlong] at HY
            subst HY
            have hlI : ¬ ((numsL acc).length : Int) > 64 := by omega
            clear hnl hal
            generalize numsL acc = na at HS hc5 hlI HAP
            go_wp2_with (first
              | ((with_reducible refine gate_ (.store 3 (.tmp 51) (.tmp 49)) rfl ?_); refine ev_store rfl rfl 3 (.tmp 51) (.tmp 49) rfl (HS.mv 2) (g := g) (j := 1) rfl rfl (seg := [.int .i64 ((k : Int) + 1)]) rfl ?ht rfl ?hf ?_; (case ht => kernel_rfl); (case hf => first | (simp; done) | (simp [splice]; done)); intro w6 HS_; clear HS q0 q1; have HS : St w S w6 [HP.obj g 37 [.string s, .int .i64 ((k : Int) + 1)], HP.row kU 5 (.slice A5 na.length c5) na, HP.obj g2 28 [.int .i64 0, .int .i64 0, .string ⟨#[]⟩, .int .i64 0]] := HS_; clear HS_; have hC := (St.row_reads (HS.mv 1)).2.2; have hcv := Kd.C_string (P := Tryd.prog) (src := 44) (dst := 9) (c := c5) Tryd.underlying44 Tryd.underlying5 Tryd.underlying9 hC; rw [HAP.out] at hcv; clear hC)
              | ((with_reducible refine gate_ (.store 28 (.tmp 2) (.tmp 60)) rfl ?_); refine ev_store rfl rfl 28 (.tmp 2) (.tmp 60) rfl (HS.mv 2) (g := g2) (j := 0) rfl rfl (seg := [.int .i64 3, .int .i64 (a : Int), .string (ba acc), .int .i64 0]) rfl ?ht rfl ?hf ?_; (case ht => kernel_rfl); (case hf => first | (simp; done) | (simp [splice]; done)); intro w7 HS_; clear HS; have HS : St w S w7 [HP.obj g2 28 [.int .i64 3, .int .i64 (a : Int), .string (ba acc), .int .i64 0], HP.obj g 37 [.string s, .int .i64 ((k : Int) + 1)], HP.row kU 5 (.slice A5 na.length c5) na] := HS_; clear HS_))
            have HB := HS.blk
            try simp only [Exit.inBlock, Exit.then]
            refine bodyPost_ret (results_ct rfl _ _ g2 28 #[.int .i64 3, .int .i64 (a : Int), .string (ba acc), .int .i64 0] (0, 0) _ rfl HB Tryd.underlying28 rfl (by kernel_rfl)) rfl ?_
            refine ⟨rfl, ?_⟩
            have HT := (HS.out 0).out 1
            rw [HKE.out] at HT
            exact HT
      · have hxb : ((c.toNat : Int) == 39) = false := by
          have : c.toNat ≠ 39 := fun e => h39 (UInt8.toNat_inj.1 e)
          rw [beq_eq_false_iff_ne]; omega
        have HU2 := Aside0.mk (show txtS (s.toList.drop (a + 1)) = (txtS (s.toList.drop (k + 1))).map (fun y => ((acc ++ [c]) ++ y.1, k + 1 - (a + 1) + y.2)) by
          rw [HU.out, hd, txtS_cons c h39]
          cases txtS (s.toList.drop (k + 1)) with
          | none => rfl
          | some y => simp; omega)
        have HAP := Aside0.mk (numsL_snoc acc c)
        have hle : (numsL acc).length + 1 ≤ 140737488355328 := by omega
        have HA : St w S wr [HP.row kU 5 (.slice A5 (numsL acc).length c5) (numsL acc), HP.cells kU (c.toNat : Int) [.int .u8 (c.toNat : Int)], HP.obj g2 28 [.int .i64 0, .int .i64 0, .string ⟨#[]⟩, .int .i64 0], HP.obj g 37 [.string s, .int .i64 (a : Int)]] := (HS.cells_ (d := kU) (x := (c.toNat : Int)) (cs := [.int .u8 (c.toNat : Int)]) rfl).mv 1
        clear HS hd hc HU hnl h39
        generalize hna : numsL acc = na at HA hc5 hle HAP
        generalize hm : (c.toNat : Int) = m at HA hx0 hxb HAP
        clear hna hm
        go_wp2_with (first
          | ((with_reducible refine gate_dst (N := 71) rfl ?_); at_builtin; refine ev_append kU rfl (.tmp 63) (.tmp 70) 44 5 _ 1 rfl Tryd.underlying44 infoU rfl (by decide) (by omega) (.slice A5 na.length c5) na m [.int .u8 m] rfl rfl HA (by omega) ?_; intro v3 w5 H5; clear HA q0 q1))
        go_roundw
        case rel => exact ⟨k + 1, acc ++ [c], by omega, by omega, by simp; omega, by go_num, HU2, by rw [HAP.out]; exact H5⟩
        case measure => simp [intOf]; omega
    · have hltI : ¬ (k : Int) < (s.size : Int) := by omega
      have HU2 := Aside0.mk (show txtS (s.toList.drop (a + 1)) = none by
        rw [HU.out, List.drop_eq_nil_of_le (by rw [size_toList]; omega)]
        rfl)
      have HY := HX.out
      rw [HU2.out] at HY
      subst HY
      clear HX HU HU2
      have HS : St w S wr [HP.obj g2 28 [.int .i64 0, .int .i64 0, .string ⟨#[]⟩, .int .i64 0], HP.obj g 37 [.string s, .int .i64 (a : Int)]] := HS.out 0
      clear q0 q1
      have q0 := (HS.mv 1).cell 0
      go_wp2_with (first
        | ((with_reducible refine gate_ (.store 28 (.tmp 2) (.tmp 73)) rfl ?_); refine ev_store rfl rfl 28 (.tmp 2) (.tmp 73) rfl HS (g := g2) (j := 0) rfl rfl (seg := [.int .i64 0, .int .i64 (a : Int), .string ⟨#[]⟩, .int .i64 0]) rfl ?ht rfl ?hf ?_; (case ht => kernel_rfl); (case hf => first | (simp; done) | (simp [splice]; done)); intro w7 HS_; clear HS q0; have HS : St w S w7 [HP.obj g2 28 [.int .i64 0, .int .i64 (a : Int), .string ⟨#[]⟩, .int .i64 0], HP.obj g 37 [.string s, .int .i64 (a : Int)]] := HS_; clear HS_))
      have HB := HS.blk
      try simp only [Exit.inBlock, Exit.then]
      refine bodyPost_ret (results_ct rfl _ _ g2 28 #[.int .i64 0, .int .i64 (a : Int), .string ⟨#[]⟩, .int .i64 0] (0, 0) _ rfl HB Tryd.underlying28 rfl (by kernel_rfl)) rfl ?_
      exact ⟨rfl, HS.out 0⟩
end Go.Proofs.YtkjfecpfjfkpnaaDoor.Lex
