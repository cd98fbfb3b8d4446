/- The law of the past, walked. -/
import Derived.Test.YtepenfgeeggjmaaRefV
namespace Go.Proofs.Ytepenfgeeggjmaa.Ver
open Go.RowKit Go.Proofs.YtepenfgeeggjmaaW.PrintWords Go.Proofs.YtepenfgeeggjmaaW.PrintLast Go.Proofs.YtepenfgeeggjmaaW.PrintMore Go.Proofs.Ytepenfgeeggjmaa.Sl Go.Proofs.Ytepenfgeeggjmaa.Str Go.Proofs.Ytepenfgeeggjmaa.Row
set_option linter.unusedVariables false
set_option linter.unusedSimpArgs false
theorem span_len (rows : List Rw) (a b : ByteArray) (ts : Int) : (span rows a b ts).length ≤ rows.length := by
  unfold span
  exact Nat.le_trans (List.length_filterMap_le _ _) (List.length_filter_le _ _)
/-- A store, whatever lies where. -/
def someH (g : Nat) (rows : List Rw) : HP := HP.ex fun u : Value => HP.ex fun us : List Value => HP.and (us.length = rows.length) (storeH g u rows us)
/-- put, of a store whatever lies where. -/
theorem putS_fun (g : Nat) (rows : List Rw) (n : Nat) (hk : Kept rows n) (hn : n ≤ 1000) (key : ByteArray) (v : Vn) :
    FunV Try.prog 10 #[.pointer (some ⟨g, 0, none⟩), .string key, .agg #[.int .i64 v.ts, .string v.val, .bool v.dead]] (fun _ => True) [someH g rows] (.int .i64 (putErr rows key v)) [someH g (put rows key v)] := by
  intro w S hS hR
  have HS := St.start hS
  obtain ⟨u, HS⟩ := St.ex_ HS
  obtain ⟨us, HS⟩ := St.ex_ HS
  obtain ⟨hu, HS⟩ := St.and_ HS
  refine ((put_fun g u rows us hk.rises hk.full hu (by have := hk.len; omega) (fun r hr => by have := (hk.each r hr).1; omega) key v).call (F := []) HS (fun _ _ _ _ => trivial)).mono ?_
  rintro e w1 ⟨r, rfl, HS1⟩
  obtain ⟨u', HS1⟩ := St.ex_ HS1
  obtain ⟨us', HS1⟩ := St.ex_ HS1
  obtain ⟨⟨hr, hu'⟩, HS2⟩ := St.and_ HS1
  subst hr
  exact ⟨rfl, St.ex_in u' (St.ex_in us' (St.and_in hu' HS2))⟩
theorem spanS_fun (g : Nat) (rows : List Rw) (n : Nat) (hk : Kept rows n) (hn : n ≤ 1000) (a b : ByteArray) (ts : Int) :
    Fun Try.prog 11 #[.pointer (some ⟨g, 0, none⟩), .agg #[.string a, .string b], .int .i64 ts] (fun _ => True) [someH g rows] (fun r => [HP.row kHt 39 r (span rows a b ts), someH g rows]) := by
  intro w S hS hR
  have HS := St.start hS
  obtain ⟨u, HS⟩ := St.ex_ HS
  obtain ⟨us, HS⟩ := St.ex_ HS
  obtain ⟨hu, HS⟩ := St.and_ HS
  refine ((span_fun g u rows us hk.rises hk.full hu (by have := hk.len; omega) a b ts).call (F := []) HS (fun _ _ _ _ => trivial)).mono ?_
  rintro e w1 ⟨r, rfl, HS1⟩
  have HS2 : St w S w1 [someH g rows, HP.row kHt 39 r (span rows a b ts)] := St.ex_in u (St.ex_in us (St.and_in hu (HS1.mv 1)))
  exact ⟨r, rfl, HS2.mv 1⟩
theorem newS_fun : Fun Try.prog 9 #[] (fun _ => True) [] (fun r => [HP.ex fun g : Nat => HP.and (r = .pointer (some ⟨g, 0, none⟩)) (someH g [])]) := by
  intro w S hS hR
  refine (new_fun w S hS hR).mono ?_
  rintro e w1 ⟨r, rfl, HS⟩
  obtain ⟨g, HS⟩ := St.ex_ HS
  obtain ⟨hr, HS⟩ := St.and_ HS
  exact ⟨r, rfl, St.ex_in g (St.and_in hr (St.ex_in (.slice none 0 0) (St.ex_in [] (St.and_in rfl HS))))⟩
set_option maxHeartbeats 4000000 in
set_option maxRecDepth 20000 in
theorem versionPast_fun (A1 : Option Addr) (c1 : Nat) (script : List OpV) (hB1 : ∀ x ∈ script, x.key.size ≤ 140737488351232) (hc1 : script.length ≤ c1) (A2 : Option Addr) (c2 : Nat) (more : List OpV) (hB2 : ∀ x ∈ more, x.key.size ≤ 140737488351232) (hc2 : more.length ≤ c2) (a b : ByteArray) (ts : Int) :
    FunV Try.prog 3 #[.slice A1 script.length c1, .slice A2 more.length c2, .agg #[.string a, .string b], .int .i64 ts] (fun w => Kd.C kOp w A1 script.length script ∧ Kd.C kOp w A2 more.length more) [] (.bool true) [] := by
  intro w S hS hR
  have HS := St.start hS
  have HR := Aside0.mk hR
  have HB1 := Aside0.mk hB1
  have HB2 := Aside0.mk hB2
  clear hS hR hB1 hB2
  have hu31 := Try.underlying31
  have hu29 := Try.underlying29
  have hu24 := Try.underlying24
  have hu22 := Try.underlying22
  go_enter Try.func3, Try.ntmps3
  go_wp2_with ((with_reducible refine gate_dst (N := 6) rfl ?_); refine ev_box ?hg (N := 6) ?hd (cs := [.string a, .string b]) (t := 24) HS ?hr ?_; (case hd => rfl); (case hg => rfl); (case hr => first | (go_simp; done) | (go_simp; rfl)); intro pb w1 HS_ hg_; clear HS; have HS := HS_; clear HS_)
  refine (awake_fun.call (F := [HP.obj pb 24 [.string a, .string b]]) HS (fun _ _ _ _ => trivial)).mono ?_
  rintro e_ w2 ⟨rfl, HS_⟩
  clear HS
  have HS : St w S w2 [HP.obj pb 24 [.string a, .string b]] := HS_
  clear HS_
  rcases Nat.lt_or_ge 120 script.length with hl1 | hl1
  · have hd1 : decide ((script.length : Int) > 120) = true := decide_eq_true (by omega)
    go_wp2_with fail
    refine (awake_fun.call (F := [HP.obj pb 24 [.string a, .string b]]) HS (fun _ _ _ _ => trivial)).mono ?_
    rintro e_ w3 ⟨rfl, HS_⟩
    clear HS
    have HS : St w S w3 [HP.obj pb 24 [.string a, .string b]] := HS_
    clear HS_
    go_wp2
    go_ret
    exact ⟨rfl, HS.out 0⟩
  have hd1 : decide ((script.length : Int) > 120) = false := decide_eq_false (by omega)
  rcases Nat.lt_or_ge 120 more.length with hl2 | hl2
  · have hd2 : decide ((more.length : Int) > 120) = true := decide_eq_true (by omega)
    go_wp2_with fail
    refine (awake_fun.call (F := [HP.obj pb 24 [.string a, .string b]]) HS (fun _ _ _ _ => trivial)).mono ?_
    rintro e_ w3 ⟨rfl, HS_⟩
    clear HS
    have HS : St w S w3 [HP.obj pb 24 [.string a, .string b]] := HS_
    clear HS_
    go_wp2
    go_ret
    exact ⟨rfl, HS.out 0⟩
  have hd2 : decide ((more.length : Int) > 120) = false := decide_eq_false (by omega)
  go_wp2_with fail
  refine (newS_fun.call (F := [HP.obj pb 24 [.string a, .string b]]) HS (fun _ _ _ _ => trivial)).mono ?_
  rintro e_ w3 ⟨r_, rfl, HS_⟩
  clear HS
  obtain ⟨gs, HS_⟩ := St.ex_ HS_
  obtain ⟨hr_, HS2_⟩ := St.and_ HS_
  subst hr_
  have HS : St w S w3 [someH gs [], HP.obj pb 24 [.string a, .string b]] := HS2_
  clear HS_ HS2_ hd1 hd2
  go_wp2_with fail
  go_loopw [31] (fun v31 w' => ∃ j : Nat, j ≤ script.length ∧ v31 = .int .i64 j ∧ Aside0 (Kept (puts [] (script.take j)) j) ∧ St w S w' [someH gs (puts [] (script.take j)), HP.obj pb 24 [.string a, .string b]]) (fun v31 _ => script.length - (intOf v31).toNat)
  case atStart => exact ⟨0, Nat.zero_le _, rfl, ⟨kept_nil⟩, HS⟩
  case round =>
    clear HS
    obtain ⟨j, hj, rfl, HK, HS⟩ := hrel
    by_cases hlt : j < script.length
    · have hltI : (j : Int) < (script.length : Int) := by omega
      have hj0 : (0 : Int) ≤ (j : Int) := by omega
      have hjd : decide ((j : Int) < (script.length : Int)) = true := decide_eq_true hltI
      obtain ⟨ad, rfl, i0, i1, i2, i3, i4, i5, i6, i7⟩ := at_Op (HR.out wr HS.ext).1 j hlt
      have hbx := HB1.out script[j] (List.getElem_mem hlt)
      have hnx := puts_take [] script j hlt
      obtain ⟨x, hx⟩ : ∃ x, script[j] = x := ⟨_, rfl⟩
      rw [hx] at i0 i1 i2 i3 i4 i5 i6 i7 hbx hnx
      have HNX := Aside0.mk hnx
      clear hnx hx
      generalize puts [] (script.take j) = rows at HK HS HNX
      go_wp2_with (first
        | ((with_reducible refine gate_dst (N := 11) rfl ?_); refine ev_box ?hg (N := 11) ?hd (cs := [.int .i64 0, .string ⟨#[]⟩, .int .i64 0, .string ⟨#[]⟩, .bool false, .string ⟨#[]⟩, .string ⟨#[]⟩, .int .i64 0]) (t := 31) HS ?hr ?_; (case hd => rfl); (case hg => rfl); (case hr => first | (go_simp; done) | (go_simp; rfl)); intro ob w4 HS_ hg_ob; clear HS; have HS := HS_; clear HS_; clear i0 i1 i2 i3 i4 i5 i6 i7)
        | ((with_reducible refine gate_ (.store 31 (.tmp 11) (.tmp 34)) rfl ?_); refine ev_store rfl rfl 31 (.tmp 11) (.tmp 34) rfl HS rfl rfl (seg := [.int .i64 x.kind, .string x.key, .int .i64 x.ts, .string x.val, .bool x.dead, .string x.fr, .string x.upto, .int .i64 x.at_]) rfl ?ht rfl ?hf ?_; (case ht => kernel_rfl); (case hf => first | (simp; done) | (simp [splice]; done)); intro w5 HS_; clear HS; have HS : St w S w5 [HP.obj ob 31 (opC x), someH gs rows, HP.obj pb 24 [.string a, .string b]] := HS_; clear HS_; have q1 : w5.cell? ⟨ob, 1, none⟩ = some (.string x.key) := HS.cell 1; have q2 : w5.cell? ⟨ob, 2, none⟩ = some (.int .i64 x.ts) := HS.cell 2; have q3 : w5.cell? ⟨ob, 3, none⟩ = some (.string x.val) := HS.cell 3; have q4 : w5.cell? ⟨ob, 4, none⟩ = some (.bool x.dead) := HS.cell 4))
      refine ((putS_fun gs rows j HK.out (by omega) x.key (opVn x)).call (F := [HP.obj ob 31 (opC x), HP.obj pb 24 [.string a, .string b]]) (HS.mv 1) (fun _ _ _ _ => trivial)).mono ?_
      rintro e_ w6 ⟨rfl, HS_⟩
      clear HS q1 q2 q3 q4
      have HS := HS_.out 1
      clear HS_
      go_wp2
      go_roundw
      case rel => exact ⟨j + 1, by omega, by go_num, ⟨by rw [HNX.out]; exact kept_put HK.out _ hbx _⟩, by rw [HNX.out]; exact HS⟩
      case measure => simp [intOf]; omega
    · obtain rfl : j = script.length := by omega
      have hjd : decide ((script.length : Int) < (script.length : Int)) = false := decide_eq_false (by omega)
      rw [List.take_length] at HS HK
      generalize puts [] script = rows1 at HS HK
      have q0 : wr.cell? ⟨pb, 0, none⟩ = some (.string a) := (HS.mv 1).cell 0
      have q1 : wr.cell? ⟨pb, 1, none⟩ = some (.string b) := (HS.mv 1).cell 1
      go_wp2_with fail
      refine ((spanS_fun gs rows1 script.length HK.out (by omega) a b ts).call (F := [HP.obj pb 24 [.string a, .string b]]) HS (fun _ _ _ _ => trivial)).mono ?_
      rintro e_ w4 ⟨rh, rfl, HS_⟩
      clear HS q0 q1 hjd
      have HS : St w S w4 [HP.row kHt 39 rh (span rows1 a b ts), someH gs rows1, HP.obj pb 24 [.string a, .string b]] := HS_
      clear HS_
      go_wp2_with fail
      go_loopw [48] (fun v48 w' => ∃ j : Nat, j ≤ more.length ∧ v48 = .int .i64 j ∧ Aside0 (Kept (laters ts rows1 (more.take j)) (script.length + j) ∧ span (laters ts rows1 (more.take j)) a b ts = span rows1 a b ts) ∧ St w S w' [HP.row kHt 39 rh (span rows1 a b ts), someH gs (laters ts rows1 (more.take j)), HP.obj pb 24 [.string a, .string b]]) (fun v48 _ => more.length - (intOf v48).toNat)
      case atStart => exact ⟨0, Nat.zero_le _, rfl, ⟨HK.out, rfl⟩, HS⟩
      case round =>
        clear HS HK
        obtain ⟨j, hj, rfl, HK, HS⟩ := hrel
        by_cases hlt : j < more.length
        · have hltI : (j : Int) < (more.length : Int) := by omega
          have hj0 : (0 : Int) ≤ (j : Int) := by omega
          have hjd : decide ((j : Int) < (more.length : Int)) = true := decide_eq_true hltI
          obtain ⟨ad, rfl, i0, i1, i2, i3, i4, i5, i6, i7⟩ := at_Op (HR.out wr HS.ext).2 j hlt
          have hbx := HB2.out more[j] (List.getElem_mem hlt)
          have hnx := laters_take ts rows1 more j hlt
          obtain ⟨x, hx⟩ : ∃ x, more[j] = x := ⟨_, rfl⟩
          rw [hx] at i0 i1 i2 i3 i4 i5 i6 i7 hbx hnx
          clear hx
          generalize laters ts rows1 (more.take j) = rows at HK HS hnx
          by_cases hts : x.ts > ts
          · rw [if_pos hts] at hnx
            have HNX := Aside0.mk hnx
            clear hnx
            have hdt : decide (x.ts > ts) = true := decide_eq_true hts
            go_wp2_with (first
              | ((with_reducible refine gate_dst (N := 14) rfl ?_); refine ev_box ?hg (N := 14) ?hd (cs := [.int .i64 0, .string ⟨#[]⟩, .int .i64 0, .string ⟨#[]⟩, .bool false, .string ⟨#[]⟩, .string ⟨#[]⟩, .int .i64 0]) (t := 31) HS ?hr ?_; (case hd => rfl); (case hg => rfl); (case hr => first | (go_simp; done) | (go_simp; rfl)); intro ob w5 HS_ hg_ob; clear HS; have HS := HS_; clear HS_; clear i0 i1 i2 i3 i4 i5 i6 i7)
              | ((with_reducible refine gate_ (.store 31 (.tmp 14) (.tmp 51)) rfl ?_); refine ev_store rfl rfl 31 (.tmp 14) (.tmp 51) rfl HS rfl rfl (seg := [.int .i64 x.kind, .string x.key, .int .i64 x.ts, .string x.val, .bool x.dead, .string x.fr, .string x.upto, .int .i64 x.at_]) rfl ?ht rfl ?hf ?_; (case ht => kernel_rfl); (case hf => first | (simp; done) | (simp [splice]; done)); intro w6 HS_; clear HS; have HS : St w S w6 [HP.obj ob 31 (opC x), HP.row kHt 39 rh (span rows1 a b ts), someH gs rows, HP.obj pb 24 [.string a, .string b]] := HS_; clear HS_; have q1 : w6.cell? ⟨ob, 1, none⟩ = some (.string x.key) := HS.cell 1; have q2 : w6.cell? ⟨ob, 2, none⟩ = some (.int .i64 x.ts) := HS.cell 2; have q3 : w6.cell? ⟨ob, 3, none⟩ = some (.string x.val) := HS.cell 3; have q4 : w6.cell? ⟨ob, 4, none⟩ = some (.bool x.dead) := HS.cell 4))
            refine ((putS_fun gs rows (script.length + j) HK.out.1 (by omega) x.key (opVn x)).call (F := [HP.obj ob 31 (opC x), HP.row kHt 39 rh (span rows1 a b ts), HP.obj pb 24 [.string a, .string b]]) (HS.mv 2) (fun _ _ _ _ => trivial)).mono ?_
            rintro e_ w7 ⟨rfl, HS_⟩
            clear HS q1 q2 q3 q4
            have HS := (HS_.out 1).mv 1
            clear HS_
            go_wp2
            go_roundw
            case rel => exact ⟨j + 1, by omega, by go_num, ⟨by rw [HNX.out]; exact ⟨kept_put HK.out.1 _ hbx _, (span_later rows HK.out.1.rises x.key (opVn x) a b ts hts).trans HK.out.2⟩⟩, by rw [HNX.out]; exact HS⟩
            case measure => simp [intOf]; omega
          · rw [if_neg hts] at hnx
            have HNX := Aside0.mk hnx
            clear hnx
            have hdt : decide (x.ts > ts) = false := decide_eq_false hts
            go_wp2_with (first
              | ((with_reducible refine gate_dst (N := 14) rfl ?_); refine ev_box ?hg (N := 14) ?hd (cs := [.int .i64 0, .string ⟨#[]⟩, .int .i64 0, .string ⟨#[]⟩, .bool false, .string ⟨#[]⟩, .string ⟨#[]⟩, .int .i64 0]) (t := 31) HS ?hr ?_; (case hd => rfl); (case hg => rfl); (case hr => first | (go_simp; done) | (go_simp; rfl)); intro ob w5 HS_ hg_ob; clear HS; have HS := HS_; clear HS_; clear i0 i1 i2 i3 i4 i5 i6 i7)
              | ((with_reducible refine gate_ (.store 31 (.tmp 14) (.tmp 51)) rfl ?_); refine ev_store rfl rfl 31 (.tmp 14) (.tmp 51) rfl HS rfl rfl (seg := [.int .i64 x.kind, .string x.key, .int .i64 x.ts, .string x.val, .bool x.dead, .string x.fr, .string x.upto, .int .i64 x.at_]) rfl ?ht rfl ?hf ?_; (case ht => kernel_rfl); (case hf => first | (simp; done) | (simp [splice]; done)); intro w6 HS_; clear HS; have HS : St w S w6 [HP.obj ob 31 (opC x), HP.row kHt 39 rh (span rows1 a b ts), someH gs rows, HP.obj pb 24 [.string a, .string b]] := HS_; clear HS_; have q2 : w6.cell? ⟨ob, 2, none⟩ = some (.int .i64 x.ts) := HS.cell 2))
            go_roundw
            case rel => exact ⟨j + 1, by omega, by go_num, ⟨by rw [HNX.out]; exact ⟨kept_mono HK.out.1 (by omega), HK.out.2⟩⟩, by rw [HNX.out]; exact HS.out 0⟩
            case measure => simp [intOf]; omega
        · obtain rfl : j = more.length := by omega
          have hjd : decide ((more.length : Int) < (more.length : Int)) = false := decide_eq_false (by omega)
          rw [List.take_length] at HS HK
          generalize laters ts rows1 more = rows2 at HS HK
          have q0 : wr.cell? ⟨pb, 0, none⟩ = some (.string a) := (HS.mv 2).cell 0
          have q1 : wr.cell? ⟨pb, 1, none⟩ = some (.string b) := (HS.mv 2).cell 1
          go_wp2_with fail
          refine ((spanS_fun gs rows2 (script.length + more.length) HK.out.1 (by omega) a b ts).call (F := [HP.row kHt 39 rh (span rows1 a b ts), HP.obj pb 24 [.string a, .string b]]) (HS.mv 1) (fun _ _ _ _ => trivial)).mono ?_
          rintro e_ w5 ⟨rh2, rfl, HS_⟩
          clear HS q0 q1 hjd
          have HS : St w S w5 [HP.row kHt 39 rh2 (span rows2 a b ts), someH gs rows2, HP.row kHt 39 rh (span rows1 a b ts), HP.obj pb 24 [.string a, .string b]] := HS_
          clear HS_
          have hln := span_len rows2 a b ts
          have hln2 := HK.out.1.len
          rw [← HK.out.2] at HS
          go_wp2_with fail
          refine ((sameHits_fun rh2 rh (span rows2 a b ts) (by omega)).call (F := [someH gs rows2, HP.obj pb 24 [.string a, .string b]]) ((HS.mv 2).mv 1) (fun _ _ _ _ => trivial)).mono ?_
          rintro e_ w6 ⟨rfl, HS_⟩
          clear HS
          go_wp2
          go_ret
          exact ⟨rfl, (((HS_.out 0).out 0).out 0).out 0⟩
end Go.Proofs.Ytepenfgeeggjmaa.Ver
