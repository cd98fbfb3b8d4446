/- Layer 1: Print, walked. -/
import Derived.Test.YtnejbilnhebphaaDoorValS
import Derived.Test.YtnejbilnhebphaaDoorShelf
import Derived.Test.YtnejbilnhebphaaDoorSlStep
import Derived.Test.YtnejbilnhebphaaDoorSlOps
import Derived.Lib.AppendIntMem
import Derived.WalkLawsBesides
import Derived.StillTailTactics
import Derived.IntWalk
import Derived.KernelRfl
namespace Go.Proofs.YtnejbilnhebphaaDoor.Val
open Go.Lib (itoa parseIntB trimSuffix replaceAll hasPrefix)
open Go.RowKit Go.Proofs.YtnejbilnhebphaaDoorW.PrintWords Go.Proofs.YtnejbilnhebphaaDoorW.PrintLast Go.Proofs.YtnejbilnhebphaaDoorW.PrintMore Go.Proofs.YtnejbilnhebphaaDoor.Str Go.Proofs.YtnejbilnhebphaaDoor.PRef Go.Proofs.YtnejbilnhebphaaDoor.Sl
set_option linter.unusedVariables false
set_option linter.unusedSimpArgs false
/-- The library's variables, as far as they are read. -/
structure Vars (w : World) : Prop where
  tab : Lib.TabIs Tryd.prog w "internal/strconv.uint64pow10" .u64 Lib.pow10Tab
  syn : ∃ tp p, w.var? Tryd.prog "strconv.ErrSyntax" = some #[.iface tp p]
  rng : ∃ tp p, w.var? Tryd.prog "strconv.ErrRange" = some #[.iface tp p]
  len : ∃ m, w.cell? ⟨0, 0, none⟩ = some (.int .i64 m)
theorem reps1_ {α : Type} {R : α → List Value → Prop} {n : Nat} {x : α} {cs : List Value} (h : R x cs) (hl : cs.length = n) : Reps R n [x] cs := (Reps.none R n).snoc h hl
abbrev kU : Kd Int := Kd.int .u8
theorem infoU : (Tryd.prog.info? 5).map (fun i => (i.zero, i.size, i.bytes)) = some (some (.int .u8 0), 1, 1) := by kernel_rfl
theorem numsL_length (l : List UInt8) : (numsL l).length = l.length := by simp [numsL]
theorem numsL_snoc (l : List UInt8) (c : UInt8) : numsL (l ++ [c]) = numsL l ++ [(c.toNat : Int)] := by simp [numsL]
set_option maxHeartbeats 4000000 in
set_option maxRecDepth 20000 in
theorem print_no (kd n : Int) (s : ByteArray) (hok : okV kd n s.toList = false) :
    FunV Tryd.prog 14 #[.agg #[.int .i64 kd, .int .i64 n, .string s]] Vars [] (.tuple #[.string ⟨#[]⟩, .int .i64 10]) [] := by
  intro w S hS hR
  have HS := St.start hS
  clear hS hR
  have huV := Tryd.underlying23
  have hck := check_f kd n s
  rw [hok] at hck
  have HC := Aside0.mk hck
  clear hck hok
  go_enter Tryd.func14, Tryd.ntmps14
  go_wp2_with (first
    | ((with_reducible refine gate_dst (N := 1) rfl ?_); refine ev_box ?hg (N := 1) ?hd (cs := [.int .i64 kd, .int .i64 n, .string s]) (t := 23) HS ?hr ?_; (case hd => rfl); (case hg => rfl); (case hr => first | (go_simp; done) | (go_simp; rfl)); intro g1 w1 HS_ hg_; clear HS; have HS := HS_; clear HS_; have q0 := HS.cell 0; have q1 := HS.cell 1; have q2 := HS.cell 2))
  refine (value_Check.calls kd n s 10 _ HC.out).mono ?_
  rintro e_ w3 ⟨rfl, hb⟩
  have HS := HS.later hb
  clear q0 q1 q2
  go_wp2_with fail
  go_ret2
  exact ⟨rfl, HS.out 0⟩
set_option maxHeartbeats 4000000 in
set_option maxRecDepth 20000 in
theorem print_01 (kd n : Int) (s : ByteArray) (hok : okV kd n s.toList = true) (h2 : kd = 0 ∨ kd = 1) (h0 : -9223372036854775808 ≤ n) (h1 : n ≤ 9223372036854775807) :
    FunV Tryd.prog 14 #[.agg #[.int .i64 kd, .int .i64 n, .string s]] Vars [] (.tuple #[.string (ba (if kd = 0 then [110, 117, 108, 108] else itoa n)), .int .i64 0]) [] := by
  intro w S hS hR
  have HS := St.start hS
  have HR := Aside0.mk hR
  clear hS hR
  have huV := Tryd.underlying23
  have hck := check_f kd n s
  rw [hok] at hck
  have HC := Aside0.mk hck
  clear hck hok
  rcases h2 with rfl | rfl
  · go_enter Tryd.func14, Tryd.ntmps14
    go_wp2_with (first
      | ((with_reducible refine gate_dst (N := 1) rfl ?_); refine ev_box ?hg (N := 1) ?hd (cs := [.int .i64 0, .int .i64 n, .string s]) (t := 23) HS ?hr ?_; (case hd => rfl); (case hg => rfl); (case hr => first | (go_simp; done) | (go_simp; rfl)); intro g1 w1 HS_ hg_; clear HS; have HS := HS_; clear HS_; have q0 := HS.cell 0; have q1 := HS.cell 1; have q2 := HS.cell 2))
    refine (value_Check.calls 0 n s 0 _ HC.out).mono ?_
    rintro e_ w3 ⟨rfl, hb⟩
    have HS := HS.later hb
    clear q0 q1 q2
    have q0 := HS.cell 0
    go_wp2_with fail
    go_ret2
    exact ⟨rfl, HS.out 0⟩
  · go_enter Tryd.func14, Tryd.ntmps14
    go_wp2_with (first
      | ((with_reducible refine gate_dst (N := 1) rfl ?_); refine ev_box ?hg (N := 1) ?hd (cs := [.int .i64 1, .int .i64 n, .string s]) (t := 23) HS ?hr ?_; (case hd => rfl); (case hg => rfl); (case hr => first | (go_simp; done) | (go_simp; rfl)); intro g1 w1 HS_ hg_; clear HS; have HS := HS_; clear HS_; have q0 := HS.cell 0; have q1 := HS.cell 1; have q2 := HS.cell 2))
    refine (value_Check.calls 1 n s 0 _ HC.out).mono ?_
    rintro e_ w3 ⟨rfl, hb⟩
    have HS := HS.later hb
    clear q0 q1 q2
    have q0 := HS.cell 0
    have q1 := HS.cell 1
    go_wp2_with fail
    refine (Tryd.strconv_FormatInt_10 n h0 h1 _ (HR.out _ HS.ext).tab).mono ?_
    rintro e_ w4 ⟨rfl, kk, os, rfl⟩
    have HS := HS.later (Lib.below_grow _ _ (Nat.le_refl _) kk os)
    clear q0 q1
    go_wp2_with fail
    go_ret2
    exact ⟨rfl, HS.out 0⟩
set_option maxHeartbeats 8000000 in
set_option maxRecDepth 20000 in
theorem print_2 (n : Int) (s : ByteArray) (hok : okV 2 n s.toList = true) :
    FunV Tryd.prog 14 #[.agg #[.int .i64 2, .int .i64 n, .string s]] Vars [] (.tuple #[.string (ba (quote s.toList)), .int .i64 0]) [] := by
  intro w S hS hR
  have HS := St.start hS
  clear hS hR
  have huV := Tryd.underlying23
  have huB := Tryd.underlying46
  have hck := check_f 2 n s
  rw [hok] at hck
  have HC := Aside0.mk hck
  have hs : s.size ≤ 64 := by
    unfold okV at hok
    rw [size_toList] at hok
    simp at hok
    exact hok.2
  clear hck hok
  have HL := Aside0.mk (size_toList s)
  go_enter Tryd.func14, Tryd.ntmps14
  go_wp2_with (first
    | ((with_reducible refine gate_dst (N := 1) rfl ?_); refine ev_box ?hg (N := 1) ?hd (cs := [.int .i64 2, .int .i64 n, .string s]) (t := 23) HS ?hr ?_; (case hd => rfl); (case hg => rfl); (case hr => first | (go_simp; done) | (go_simp; rfl)); intro g1 w1 HS_ hg_; clear HS; have HS := HS_; clear HS_; have q0 := HS.cell 0; have q1 := HS.cell 1; have q2 := HS.cell 2))
  refine (value_Check.calls 2 n s 0 _ HC.out).mono ?_
  rintro e_ w3 ⟨rfl, hb⟩
  have HS := HS.later hb
  clear q0 q1 q2
  have q0 := HS.cell 0
  have q2 := HS.cell 2
  go_wp2_with (first
    | ((with_reducible refine gate_dst (N := 21) rfl ?_); refine ev_lit kU 5 ?hg (N := 21) ?hd (xs := [39]) (inner := [.int .u8 39]) HS ?hr ?hp (by simp) ?_; (case hd => rfl); (case hg => rfl); (case hr => first | (go_simp; done) | (go_simp; rfl)); (case hp => exact reps1_ (by exact rfl) rfl); intro v8 w8 H3; clear HS q0 q2; have HS := H3; clear H3; have q2 := (HS.mv 1).cell 2))
  go_loopw [5, 25] (fun v5 v25 w' => ∃ i : Nat, i ≤ s.size ∧ v25 = .int .i64 i ∧ St w S w' [HP.row kU 5 v5 (numsL (39 :: dbl (s.toList.take i))), HP.obj g1 23 [.int .i64 2, .int .i64 n, .string s]]) (fun _ v25 _ => s.size - (intOf v25).toNat)
  case atStart => exact ⟨0, Nat.zero_le _, rfl, HS⟩
  case round =>
    clear HS q2 hb
    obtain ⟨i, hi, rfl, HS⟩ := hrel
    obtain ⟨A5, c5, rfl, hc5, -⟩ := St.row_C HS
    have q2 := (HS.mv 1).cell 2
    have hi0 : (0 : Int) ≤ (i : Int) := by omega
    by_cases hlt : i < s.size
    · have hltI : (i : Int) < (s.size : Int) := by omega
      have hil : i < s.toList.length := by rw [HL.out]; exact hlt
      have hwi : IntKind.i64.wrap ((i : Int) + 1) = ((i + 1 : Nat) : Int) := by rw [IntWalk.i64_in _ (by omega)]; omega
      obtain ⟨c, hc⟩ : ∃ c : UInt8, s[i] = c := ⟨_, rfl⟩
      have hx : ∀ h : i < s.size, ((s[i]'h).toNat : Int) = (c.toNat : Int) := fun h => by rw [← hc]
      have hcl : s.toList[i] = c := by rw [← hc]; simp only [toList_eq]; rfl
      have htk := Aside0.mk (show s.toList.take (i + 1) = s.toList.take i ++ [c] by rw [List.take_succ_eq_append_getElem hil, hcl])
      have hln := Aside0.mk (show (numsL (39 :: dbl (s.toList.take i))).length ≤ 2 * i + 1 by
        rw [numsL_length]
        have := dbl_le (s.toList.take i)
        have := List.length_take_le i s.toList
        simp
        omega)
      have hub := c.toNat_lt
      clear hc hcl hil
      generalize hacc : numsL (39 :: dbl (s.toList.take i)) = acc at HS hln hc5
      have HAC := Aside0.mk hacc
      clear hacc
      have hle := hln.out
      by_cases h39 : c = 39
      · subst h39
        have hx' : ∀ h : i < s.size, ((s[i]'h).toNat : Int) = 39 := hx
        have hfin0 : acc ++ [39] ++ [39] = numsL (39 :: dbl (s.toList.take (i + 1))) := by
          rw [htk.out, dbl_snoc, ← HAC.out, if_pos rfl]
          simp [numsL]
        have hl2 : (acc ++ [39]).length ≤ 2 * i + 2 := by simp; omega
        generalize ha2 : acc ++ [(39 : Int)] = ac2 at hfin0 hl2
        have hfin := Aside0.mk hfin0
        have HA2 := Aside0.mk ha2
        clear hfin0 ha2
        have HA : St w S wr [HP.row kU 5 (.slice A5 acc.length c5) acc, HP.cells kU 39 [.int .u8 39], HP.obj g1 23 [.int .i64 2, .int .i64 n, .string s]] := (HS.cells_ (d := kU) (x := 39) (cs := [.int .u8 39]) rfl).mv 1
        clear HS hx
        go_wp2_with (first
          | ((with_reducible refine gate_dst (N := 34) rfl ?_); at_builtin; refine ev_append kU rfl (.tmp 28) (.tmp 33) 46 5 _ 1 rfl Tryd.underlying46 infoU rfl (by decide) (by omega) (.slice A5 acc.length c5) acc 39 [.int .u8 39] rfl rfl HA (by omega) ?_; intro v3 w5 H5; clear HA q2; have q2 := (H5.mv 1).cell 2; rw [HA2.out] at H5; obtain ⟨A7, c7, rfl, hc7, hC7⟩ := St.row_C H5; clear hC7; have HB : St w S w5 [HP.row kU 5 (.slice A7 ac2.length c7) ac2, HP.cells kU 39 [.int .u8 39], HP.obj g1 23 [.int .i64 2, .int .i64 n, .string s]] := (H5.cells_ (d := kU) (x := 39) (cs := [.int .u8 39]) rfl).mv 1; clear H5)
          | ((with_reducible refine gate_dst (N := 42) rfl ?_); at_builtin; refine ev_append kU rfl (.tmp 40) (.tmp 41) 46 5 _ 1 rfl Tryd.underlying46 infoU rfl (by decide) (by omega) (.slice A7 ac2.length c7) ac2 39 [.int .u8 39] rfl rfl HB (by omega) ?_; intro v8 w8 H8))
        go_roundw
        case rel => exact ⟨i + 1, by omega, by go_num, by rw [← hfin.out]; exact H8⟩
        case measure => simp [intOf]; omega
      · have hxb : ((c.toNat : Int) == 39) = false := by
          have : c.toNat ≠ 39 := fun e => h39 (UInt8.toNat_inj.1 e)
          simp
          omega
        have hfin := Aside0.mk (show acc ++ [(c.toNat : Int)] = numsL (39 :: dbl (s.toList.take (i + 1))) by
          rw [htk.out, dbl_snoc, ← HAC.out, if_neg h39]
          simp [numsL])
        obtain ⟨m, hm⟩ : ∃ m : Int, (c.toNat : Int) = m := ⟨_, rfl⟩
        have hm0 : 0 ≤ m := by omega
        have hm1 : m ≤ 255 := by omega
        rw [hm] at hxb hfin
        have hx' : ∀ h : i < s.size, ((s[i]'h).toNat : Int) = m := fun h => (hx h).trans hm
        clear hx hm h39
        have HA : St w S wr [HP.row kU 5 (.slice A5 acc.length c5) acc, HP.cells kU m [.int .u8 m], HP.obj g1 23 [.int .i64 2, .int .i64 n, .string s]] := (HS.cells_ (d := kU) (x := m) (cs := [.int .u8 m]) rfl).mv 1
        clear HS
        go_wp2_with (first
          | ((with_reducible refine gate_dst (N := 34) rfl ?_); at_builtin; refine ev_append kU rfl (.tmp 28) (.tmp 33) 46 5 _ 1 rfl Tryd.underlying46 infoU rfl (by decide) (by omega) (.slice A5 acc.length c5) acc m [.int .u8 m] rfl rfl HA (by omega) ?_; intro v3 w5 H5; clear HA q2; have q2 := (H5.mv 1).cell 2))
        go_roundw
        case rel => exact ⟨i + 1, by omega, by go_num, by rw [← hfin.out]; exact H5⟩
        case measure => simp [intOf]; omega
    · have hltI : ¬ (i : Int) < (s.size : Int) := by omega
      have htk : s.toList.take i = s.toList := List.take_of_length_le (by rw [HL.out]; omega)
      rw [htk] at HS hc5 ⊢
      have hln := Aside0.mk (show (numsL (39 :: dbl s.toList)).length ≤ 129 by
        rw [numsL_length]
        have := dbl_le s.toList
        rw [HL.out] at this
        simp
        omega)
      generalize hacc : numsL (39 :: dbl s.toList) = acc at HS hln hc5
      have hfin0 : strOfNums (acc ++ [39]) = ba (quote s.toList) := by
        rw [← hacc, ← strOfNums_numsL]
        congr 1
        simp [numsL, quote]
      generalize ha2 : acc ++ [(39 : Int)] = ac2 at hfin0
      have hfin := Aside0.mk hfin0
      have HA2 := Aside0.mk ha2
      clear hacc htk hfin0 ha2
      have hle := hln.out
      have HA : St w S wr [HP.row kU 5 (.slice A5 acc.length c5) acc, HP.cells kU 39 [.int .u8 39], HP.obj g1 23 [.int .i64 2, .int .i64 n, .string s]] := (HS.cells_ (d := kU) (x := 39) (cs := [.int .u8 39]) rfl).mv 1
      clear HS
      go_wp2_with (first
        | ((with_reducible refine gate_dst (N := 46) rfl ?_); at_builtin; refine ev_append kU rfl (.tmp 44) (.tmp 45) 46 5 _ 1 rfl Tryd.underlying46 infoU rfl (by decide) (by omega) (.slice A5 acc.length c5) acc 39 [.int .u8 39] rfl rfl HA (by omega) ?_; intro v3 w5 H5; clear HA q2; rw [HA2.out] at H5; obtain ⟨A7, c7, rfl, hc7, hC7⟩ := St.row_C H5; have hcv := Kd.C_string (P := Tryd.prog) (src := 46) (dst := 9) (c := c7) Tryd.underlying46 Tryd.underlying5 Tryd.underlying9 hC7; clear hC7))
      go_ret2
      exact ⟨by rw [hfin.out]; rfl, (H5.out 0).out 0⟩
theorem print_fun (kd n : Int) (s : ByteArray) (h0 : -9223372036854775808 ≤ n) (h1 : n ≤ 9223372036854775807) :
    FunV Tryd.prog 14 #[.agg #[.int .i64 kd, .int .i64 n, .string s]] Vars [] (.tuple #[.string (ba (printV kd n s.toList).1), .int .i64 (printV kd n s.toList).2]) [] := by
  cases hok : okV kd n s.toList
  · have : printV kd n s.toList = ([], 10) := by unfold printV; rw [hok]; rfl
    rw [this]
    exact print_no kd n s hok
  · have he : printV kd n s.toList = (if kd = 0 then [110, 117, 108, 108] else if kd = 1 then itoa n else quote s.toList, 0) := by unfold printV; rw [hok]; rfl
    rw [he]
    by_cases h2 : kd = 0 ∨ kd = 1
    · have := print_01 kd n s hok h2 h0 h1
      rcases h2 with rfl | rfl <;> exact this
    · have hk : kd = 2 := by
        unfold okV at hok
        rw [if_neg (by omega), if_neg (by omega)] at hok
        simp at hok
        exact hok.1.1
      subst hk
      exact print_2 n s hok
end Go.Proofs.YtnejbilnhebphaaDoor.Val
