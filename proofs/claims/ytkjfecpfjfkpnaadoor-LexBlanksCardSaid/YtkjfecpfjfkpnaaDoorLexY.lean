/- Layer 17: word, name, number, sign, walked. -/
import Derived.Test.YtkjfecpfjfkpnaaDoorLexX
import Derived.Test.YtkjfecpfjfkpnaaDoorLexV
namespace Go.Proofs.YtkjfecpfjfkpnaaDoor.Lex
open Go.Lib (parseIntB)
open Go.RowKit Go.Proofs.YtkjfecpfjfkpnaaDoorW.PrintWords Go.Proofs.YtkjfecpfjfkpnaaDoorW.PrintLast Go.Proofs.YtkjfecpfjfkpnaaDoorW.PrintMore Go.Proofs.YtkjfecpfjfkpnaaDoor.Sl Go.Proofs.YtkjfecpfjfkpnaaDoor.Str
open Go.Proofs.YtkjfecpfjfkpnaaDoor.Val (isDig)
set_option linter.unusedVariables false
set_option linter.unusedSimpArgs false
def one (c : UInt8) : ByteArray := ⟨#[c]⟩
theorem ext_one (s : ByteArray) (a : Nat) (ha : a < s.size) (c : UInt8) (hc : s[a] = c) : s.extract a (a + 1) = one c := by
  refine Str.ext _ _ ?_
  rw [Go.Lib.extract_toList, ← toList_eq, drop_at s a ha, hc]
  rw [show (a + 1 - a) = 1 by omega]
  rw [toList_eq (one c)]
  rfl
theorem idx_neg : ∀ (l : List UInt8) (c : UInt8), l.contains c = true ↔ 0 ≤ Go.Lib.indexByte l c
  | [], c => by simp [Go.Lib.indexByte]
  | b :: l, c => by
    have h := idx_neg l c
    have hg := Go.Lib.indexByte_ge l c
    unfold Go.Lib.indexByte
    by_cases hb : b = c
    · simp [hb]
    · have hb' : (b == c) = false := by simpa using hb
      have hb2 : ¬ c = b := fun e => hb e.symm
      by_cases h1 : Go.Lib.indexByte l c = -1
      · rw [h1] at h
        have h2 : l.contains c = false := by
          cases hh : l.contains c
          · rfl
          · exact absurd (h.1 hh) (by decide)
        simp [hb', h1, hb2, h2, hb]
        simpa using h2
      · have h3 : 0 ≤ Go.Lib.indexByte l c := by omega
        have h4 := h.2 h3
        simp [hb', h1, hb2, hb]
        constructor
        · intro _; omega
        · intro _; simpa using h4
theorem sig_fun (c : UInt8) : ∃ r : Int, (∀ w, Calls Tryd.prog 19 #[.string ⟨#[40, 41, 44, 59, 61, 42]⟩, .int .u8 (c.toNat : Int)] w fun e w' => e = .returned (.int .i64 r) ∧ w' = w) ∧ (isSig c = true ↔ 0 ≤ r) := by
  refine ⟨Go.Lib.indexByte [40, 41, 44, 59, 61, 42] c, fun w => ?_, idx_neg _ c⟩
  have h := Tryd.strings_IndexByte ⟨#[40, 41, 44, 59, 61, 42]⟩ (c.toNat : Int) w
  rw [show ((c.toNat : Int)).toNat.toUInt8 = c by simp] at h
  exact h
set_option maxHeartbeats 4000000 in
set_option maxRecDepth 20000 in
theorem word_fun (g : Nat) (s : ByteArray) (hs : s.size ≤ 1000000) (k : Int) (a e : Nat) (h1 : a ≤ e) (h2 : e ≤ s.size) :
    FunV Tryd.prog 20 #[.pointer (some ⟨g, 0, none⟩), .int .i64 k, .int .i64 (e : Int)] (fun _ => True) [HP.obj g 37 [.string s, .int .i64 (a : Int)]] (.agg #[.int .i64 k, .int .i64 (a : Int), .string (s.extract a e), .int .i64 0]) [HP.obj g 37 [.string s, .int .i64 (e : Int)]] := by
  intro w S hS hR
  have HS := St.start hS
  clear hS hR
  have hu := Tryd.underlying37
  have huW := Tryd.underlying28
  have i1 : (a : Int) ≤ (e : Int) := by omega
  have i2 : (e : Int) ≤ (s.size : Int) := by omega
  have i0 : (0 : Int) ≤ (a : Int) := by omega
  go_enter Tryd.func20, Tryd.ntmps20
  go_wp2_with (first
    | ((with_reducible refine gate_dst (N := 6) rfl ?_); refine ev_box ?hg (N := 6) ?hd (cs := [.int .i64 0, .int .i64 0, .string ⟨#[]⟩, .int .i64 0]) (t := 28) HS ?hr ?_; (case hd => rfl); (case hg => rfl); (case hr => first | (go_simp; done) | (go_simp; rfl)); intro g6 w1 HS_ hg_; clear HS; have HS := HS_; clear HS_))
  replace HS := HS.drew
  refine start_ (n := 18) (S := fun w' => w'.cell? ⟨g, 0, none⟩ = some (.string s) ∧ w'.cell? ⟨g, 1, none⟩ = some (.int .i64 (a : Int))) (ds := []) #[false, false, false, false, false, false, false, false, false, false, false, false, false, false, false, false, false, false] (by kernel_rfl) rfl rfl ⟨(HS.mv 1).cell 0, (HS.mv 1).cell 1⟩ (fun hHeld => ?_)
  refine pure_ (i := 0) (N := some 8) (v := ?_) (a' := ?_) #[true, false, false, false, false, false, false, false, false, false, false, false, false, false, false, false, false, false] rfl rfl (by kernel_rfl) (fun _ _ _ h => h) (Or.inl ⟨by rfl, ?_⟩) ?_ ?_
  rotate_left
  · intro w'
    go_simp
    with_reducible rfl
  rotate_left
  · simp only [Act.put, List.setIfInBounds_toArray, List.set_cons_zero, List.set_cons_succ, i64_w, i32_w]
    rfl
  refine pure_ (i := 1) (N := some 9) (v := ?_) (a' := ?_) #[true, true, false, false, false, false, false, false, false, false, false, false, false, false, false, false, false, false] rfl rfl (by kernel_rfl) (fun _ _ _ h => h) (Or.inl ⟨by rfl, ?_⟩) ?_ ?_
  rotate_left
  · intro w'
    go_simp
    with_reducible rfl
  rotate_left
  · simp only [Act.put, List.setIfInBounds_toArray, List.set_cons_zero, List.set_cons_succ, i64_w, i32_w]
    rfl
  refine pure_ (i := 2) (N := some 10) (v := ?_) (a' := ?_) #[true, true, true, false, false, false, false, false, false, false, false, false, false, false, false, false, false, false] rfl rfl (by kernel_rfl) (fun _ _ _ h => h) (Or.inl ⟨by rfl, ?_⟩) ?_ ?_
  rotate_left
  · intro w'
    go_simp
    with_reducible rfl
  rotate_left
  · simp only [Act.put, List.setIfInBounds_toArray, List.set_cons_zero, List.set_cons_succ, i64_w, i32_w]
    rfl
  refine pure_ (i := 3) (N := some 11) (v := ?_) (a' := ?_) #[true, true, true, true, false, false, false, false, false, false, false, false, false, false, false, false, false, false] rfl rfl (by kernel_rfl) (fun _ _ _ h => h) (Or.inl ⟨by rfl, ?_⟩) ?_ ?_
  rotate_left
  · intro w'
    go_simp
    with_reducible rfl
  rotate_left
  · simp only [Act.put, List.setIfInBounds_toArray, List.set_cons_zero, List.set_cons_succ, i64_w, i32_w]
    rfl
  refine pure_ (i := 5) (N := some 13) (v := ?_) (a' := ?_) #[true, true, true, true, false, true, false, false, false, false, false, false, false, false, false, false, false, false] rfl rfl (by kernel_rfl) (fun _ _ _ h => h) (Or.inl ⟨by rfl, ?_⟩) ?_ ?_
  rotate_left
  · intro w'
    go_simp
    with_reducible rfl
  rotate_left
  · simp only [Act.put, List.setIfInBounds_toArray, List.set_cons_zero, List.set_cons_succ, i64_w, i32_w]
    rfl
  refine pure_ (i := 6) (N := some 14) (v := ?_) (a' := ?_) #[true, true, true, true, false, true, true, false, false, false, false, false, false, false, false, false, false, false] rfl rfl (by kernel_rfl) (fun _ _ _ h => h) (Or.inl ⟨by rfl, ?_⟩) ?_ ?_
  rotate_left
  · intro w'
    go_simp
    with_reducible rfl
  rotate_left
  · simp only [Act.put, List.setIfInBounds_toArray, List.set_cons_zero, List.set_cons_succ, i64_w, i32_w]
    rfl
  refine pure_ (i := 7) (N := some 15) (v := ?_) (a' := ?_) #[true, true, true, true, false, true, true, true, false, false, false, false, false, false, false, false, false, false] rfl rfl (by kernel_rfl) (fun _ _ _ h => h) (Or.inl ⟨by rfl, ?_⟩) ?_ ?_
  rotate_left
  · intro w'
    go_simp
    with_reducible rfl
  rotate_left
  · simp only [Act.put, List.setIfInBounds_toArray, List.set_cons_zero, List.set_cons_succ, i64_w, i32_w]
    rfl
  refine pure_ (i := 9) (N := some 17) (v := ?_) (a' := ?_) #[true, true, true, true, false, true, true, true, false, true, false, false, false, false, false, false, false, false] rfl rfl (by kernel_rfl) (fun _ _ _ h => h) (Or.inl ⟨by rfl, ?_⟩) ?_ ?_
  rotate_left
  · intro w'
    go_simp
    with_reducible rfl
  rotate_left
  · simp only [Act.put, List.setIfInBounds_toArray, List.set_cons_zero, List.set_cons_succ, i64_w, i32_w]
    rfl
  refine pure_ (i := 10) (N := some 18) (v := ?_) (a' := ?_) #[true, true, true, true, false, true, true, true, false, true, true, false, false, false, false, false, false, false] rfl rfl (by kernel_rfl) (fun _ _ _ h => h) (Or.inl ⟨by rfl, ?_⟩) ?_ ?_
  rotate_left
  · intro w'
    go_simp
    with_reducible rfl
  rotate_left
  · simp only [Act.put, List.setIfInBounds_toArray, List.set_cons_zero, List.set_cons_succ, i64_w, i32_w]
    rfl
  refine pure_ (i := 11) (N := some 19) (v := ?_) (a' := ?_) #[true, true, true, true, false, true, true, true, false, true, true, true, false, false, false, false, false, false] rfl rfl (by kernel_rfl) (fun _ _ _ h => h) (Or.inl ⟨by rfl, ?_⟩) ?_ ?_
  rotate_left
  · intro w'
    go_simp
    with_reducible rfl
  rotate_left
  · simp only [Act.put, List.setIfInBounds_toArray, List.set_cons_zero, List.set_cons_succ, i64_w, i32_w]
    rfl
  refine pure_ (i := 13) (N := some 21) (v := ?_) (a' := ?_) #[true, true, true, true, false, true, true, true, false, true, true, true, false, true, false, false, false, false] rfl rfl (by kernel_rfl) (fun _ _ _ h => h) (Or.inl ⟨by rfl, ?_⟩) ?_ ?_
  rotate_left
  · intro w'
    go_simp
    with_reducible rfl
  rotate_left
  · simp only [Act.put, List.setIfInBounds_toArray, List.set_cons_zero, List.set_cons_succ, i64_w, i32_w]
    rfl
  refine take_ (i := 4) (N := some 12) (v := ?_) (a' := ?_) #[true, true, true, true, true, true, true, true, false, true, true, true, false, true, false, false, false, false] rfl rfl (by kernel_rfl) (fun _ _ _ h => h) (Or.inl ⟨by rfl, ?_⟩) hHeld ?_ ?_
  rotate_left
  · rintro w' ⟨s0, s1⟩
    go_simp
    with_reducible rfl
  rotate_left
  · simp only [Act.put, List.setIfInBounds_toArray, List.set_cons_zero, List.set_cons_succ, i64_w, i32_w]
    rfl
  refine take_ (i := 8) (N := some 16) (v := ?_) (a' := ?_) #[true, true, true, true, true, true, true, true, true, true, true, true, false, true, false, false, false, false] rfl rfl (by kernel_rfl) (fun _ _ _ h => h) (Or.inl ⟨by rfl, ?_⟩) hHeld ?_ ?_
  rotate_left
  · rintro w' ⟨s0, s1⟩
    go_simp
    with_reducible rfl
  rotate_left
  · simp only [Act.put, List.setIfInBounds_toArray, List.set_cons_zero, List.set_cons_succ, i64_w, i32_w]
    rfl
  refine take_ (i := 12) (N := some 20) (v := ?_) (a' := ?_) #[true, true, true, true, true, true, true, true, true, true, true, true, true, true, false, false, false, false] rfl rfl (by kernel_rfl) (fun _ _ _ h => h) (Or.inl ⟨by rfl, ?_⟩) hHeld ?_ ?_
  rotate_left
  · rintro w' ⟨s0, s1⟩
    go_simp
    with_reducible rfl
  rotate_left
  · simp only [Act.put, List.setIfInBounds_toArray, List.set_cons_zero, List.set_cons_succ, i64_w, i32_w]
    rfl
  refine pure_ (i := 14) (N := some 22) (v := ?_) (a' := ?_) #[true, true, true, true, true, true, true, true, true, true, true, true, true, true, true, false, false, false] rfl rfl (by kernel_rfl) (fun _ _ _ h => h) (Or.inl ⟨by rfl, ?_⟩) ?_ ?_
  rotate_left
  · intro w'
    go_simp
    with_reducible rfl
  rotate_left
  · simp only [Act.put, List.setIfInBounds_toArray, List.set_cons_zero, List.set_cons_succ, i64_w, i32_w]
    rfl
  refine pure_ (i := 15) (N := some 23) (v := ?_) (a' := ?_) #[true, true, true, true, true, true, true, true, true, true, true, true, true, true, true, true, false, false] rfl rfl (by kernel_rfl) (fun _ _ _ h => h) (Or.inl ⟨by rfl, ?_⟩) ?_ ?_
  rotate_left
  · intro w'
    go_simp
    with_reducible rfl
  rotate_left
  · simp only [Act.put, List.setIfInBounds_toArray, List.set_cons_zero, List.set_cons_succ, i64_w, i32_w]
    rfl
  refine one_ (i := 16) (N := some 7) #[true, true, true, true, true, true, true, true, true, true, true, true, true, true, true, true, true, false] rfl rfl (by kernel_rfl) (by decide) (fun K hK => ?_)
  refine ev_box_step (by rfl) rfl (cs := [.int .i64 0, .int .i64 0, .string ⟨#[]⟩, .int .i64 0]) (t := 28) HS ?hr ?_
  case hr => first | (go_simp; done) | (go_simp; rfl)
  intro g7 w15 HS_ hg_
  clear HS
  have HS := HS_
  clear HS_ hg_
  refine hK.out _ _ ⟨(HS.mv 2).cell 0, (HS.mv 2).cell 1⟩ (fun hHeld => ?_)
  clear hK K
  refine norm_ (a' := ?_) ?_ ?_
  rotate_left
  · show Act.put _ (some 7) _ = _
    simp only [Act.put, List.setIfInBounds_toArray, List.set_cons_zero, List.set_cons_succ, i64_w, i32_w]
    rfl
  refine one_ (i := 17) (N := none) #[true, true, true, true, true, true, true, true, true, true, true, true, true, true, true, true, true, true] rfl rfl (by kernel_rfl) (by decide) (fun K hK => ?_)
  refine ev_store_step (by rfl) rfl 28 (.tmp 7) (.tmp 23) rfl HS rfl rfl (seg := [.int .i64 k, .int .i64 (a : Int), .string (s.extract a e), .int .i64 0]) rfl ?ht rfl ?hf ?_
  case ht => kernel_rfl
  case hf => first | (simp; done) | (simp [splice]; done)
  intro w16 HS_
  clear HS
  have HS : St w S w16 [HP.obj g7 28 [.int .i64 k, .int .i64 (a : Int), .string (s.extract a e), .int .i64 0], HP.obj g6 28 [.int .i64 0, .int .i64 0, .string ⟨#[]⟩, .int .i64 0], HP.obj g 37 [.string s, .int .i64 (a : Int)]] := HS_
  clear HS_
  refine hK.out _ _ ⟨(HS.mv 2).cell 0, (HS.mv 2).cell 1⟩ (fun hHeld => ?_)
  clear hK K
  refine done_ (by kernel_rfl) ?_
  clear hHeld
  have p0 := HS.cell 0
  have p1 := HS.cell 1
  have p2 := HS.cell 2
  have p3 := HS.cell 3
  go_wp2_with (first
    | ((with_reducible refine gate_ (.store 3 (.tmp 27) (.tmp 25)) rfl ?_); refine ev_store rfl rfl 3 (.tmp 27) (.tmp 25) rfl (HS.mv 2) (g := g) (j := 1) rfl rfl (seg := [.int .i64 (e : Int)]) rfl ?ht rfl ?hf ?_; (case ht => kernel_rfl); (case hf => first | (simp; done) | (simp [splice]; done)); intro w17 HS_; clear HS p0 p1 p2 p3; have HS : St w S w17 [HP.obj g 37 [.string s, .int .i64 (e : Int)], HP.obj g7 28 [.int .i64 k, .int .i64 (a : Int), .string (s.extract a e), .int .i64 0], HP.obj g6 28 [.int .i64 0, .int .i64 0, .string ⟨#[]⟩, .int .i64 0]] := HS_; clear HS_; have p0 := (HS.mv 1).cell 0; have p1 := (HS.mv 1).cell 1; have p2 := (HS.mv 1).cell 2; have p3 := (HS.mv 1).cell 3)
    | ((with_reducible refine gate_ (.store 28 (.tmp 6) (.tmp 28)) rfl ?_); refine ev_store rfl rfl 28 (.tmp 6) (.tmp 28) rfl (HS.mv 2) (g := g6) (j := 0) rfl rfl (seg := [.int .i64 k, .int .i64 (a : Int), .string (s.extract a e), .int .i64 0]) rfl ?ht rfl ?hf ?_; (case ht => kernel_rfl); (case hf => first | (simp; done) | (simp [splice]; done)); intro w18 HS_; clear HS p0 p1 p2 p3; have HS : St w S w18 [HP.obj g6 28 [.int .i64 k, .int .i64 (a : Int), .string (s.extract a e), .int .i64 0], HP.obj g 37 [.string s, .int .i64 (e : Int)], HP.obj g7 28 [.int .i64 k, .int .i64 (a : Int), .string (s.extract a e), .int .i64 0]] := HS_; clear HS_))
  have HB := HS.blk
  try simp only [Exit.inBlock, Exit.then]
  refine bodyPost_ret (results_cell_row rfl _ _ g6 28 #[.int .i64 k, .int .i64 (a : Int), .string (s.extract a e), .int .i64 0] (0, 0) _ rfl HB Tryd.underlying28 rfl (by kernel_rfl)) rfl ?_
  exact ⟨rfl, (HS.out 0).out 1⟩
set_option maxHeartbeats 4000000 in
set_option maxRecDepth 20000 in
theorem name_ok (g : Nat) (s : ByteArray) (hs : s.size ≤ 1000000) (a e : Nat) (ha : a ≤ s.size) (he : a + runL isNam (s.toList.drop a) = e) (h2 : e ≤ s.size) (tx : ByteArray) (htx : s.extract a e = tx) (hx : tx.size ≤ 16) :
    FunV Tryd.prog 13 #[.pointer (some ⟨g, 0, none⟩)] (fun _ => True) [HP.obj g 37 [.string s, .int .i64 (a : Int)]] (.tuple #[.agg #[.int .i64 1, .int .i64 (a : Int), .string tx, .int .i64 0], .int .i64 0]) [HP.obj g 37 [.string s, .int .i64 (e : Int)]] := by
  intro w S hS hR
  have HS := St.start hS
  have HR := Aside0.mk hR
  clear hS hR
  have hu := Tryd.underlying37
  have huW := Tryd.underlying28
  have i1 : a ≤ e := by omega
  have hw := word_fun g s hs 1 a e i1 h2
  rw [htx] at hw
  have HW := Aside0.mk hw
  have HE := Aside0.mk (while_fun 21 isNam (enters Tryd.func21 (by kernel_rfl) (by kernel_rfl)) nam_fun g s hs (a : Int) a ha e he)
  have hc : ¬ (tx.size : Int) > 16 := by omega
  clear hw htx he
  go_enter Tryd.func13, Tryd.ntmps13
  go_wp2_with (first
    | ((with_reducible refine gate_dst (N := 2) rfl ?_); refine ev_box ?hg (N := 2) ?hd (cs := [.int .i64 0, .int .i64 0, .string ⟨#[]⟩, .int .i64 0]) (t := 28) HS ?hr ?_; (case hd => rfl); (case hg => rfl); (case hr => first | (go_simp; done) | (go_simp; rfl)); intro g2 w1 HS_ hg_; clear HS; have HS := HS_; clear HS_; have q0 := (HS.mv 1).cell 0; have q1 := (HS.mv 1).cell 1))
  refine ((HE.out).call (F := [HP.obj g2 28 [.int .i64 0, .int .i64 0, .string ⟨#[]⟩, .int .i64 0]]) (HS.mv 1) (fun _ _ _ _ => trivial)).mono ?_
  rintro e_ w2 ⟨rfl, HS_⟩
  clear HS q0 q1
  have HS : St w S w2 [HP.obj g 37 [.string s, .int .i64 (a : Int)], HP.obj g2 28 [.int .i64 0, .int .i64 0, .string ⟨#[]⟩, .int .i64 0]] := HS_
  clear HS_
  go_wp2_with fail
  refine ((HW.out).call (F := [HP.obj g2 28 [.int .i64 0, .int .i64 0, .string ⟨#[]⟩, .int .i64 0]]) HS (fun _ _ _ _ => trivial)).mono ?_
  rintro e_ w3 ⟨rfl, HS_⟩
  clear HS 
  have HS : St w S w3 [HP.obj g 37 [.string s, .int .i64 (e : Int)], HP.obj g2 28 [.int .i64 0, .int .i64 0, .string ⟨#[]⟩, .int .i64 0]] := HS_
  clear HS_
  go_wp2_with (first
    | ((with_reducible refine gate_dst (N := 4) rfl ?_); refine ev_box ?hg (N := 4) ?hd (cs := [.int .i64 0, .int .i64 0, .string ⟨#[]⟩, .int .i64 0]) (t := 28) HS ?hr ?_; (case hd => rfl); (case hg => rfl); (case hr => first | (go_simp; done) | (go_simp; rfl)); intro g4 w4 HS_ hg_; clear HS; have HS := HS_; clear HS_; have p0 := HS.cell 0; have p1 := HS.cell 1; have p2 := HS.cell 2; have p3 := HS.cell 3)
    | ((with_reducible refine gate_ (.store 28 (.tmp 4) (.tmp 12)) rfl ?_); refine ev_store rfl rfl 28 (.tmp 4) (.tmp 12) rfl HS (g := g4) (j := 0) rfl rfl (seg := [.int .i64 1, .int .i64 (a : Int), .string tx, .int .i64 0]) rfl ?ht rfl ?hf ?_; (case ht => kernel_rfl); (case hf => first | (simp; done) | (simp [splice]; done)); intro w5 HS_; clear HS p0 p1 p2 p3; have HS : St w S w5 [HP.obj g4 28 [.int .i64 1, .int .i64 (a : Int), .string tx, .int .i64 0], HP.obj g 37 [.string s, .int .i64 (e : Int)], HP.obj g2 28 [.int .i64 0, .int .i64 0, .string ⟨#[]⟩, .int .i64 0]] := HS_; clear HS_; have p0 := HS.cell 0; have p1 := HS.cell 1; have p2 := HS.cell 2; have p3 := HS.cell 3)
    | ((with_reducible refine gate_ (.store 28 (.tmp 2) (.tmp 18)) rfl ?_); refine ev_store rfl rfl 28 (.tmp 2) (.tmp 18) rfl (HS.mv 2) (g := g2) (j := 0) rfl rfl (seg := [.int .i64 1, .int .i64 (a : Int), .string tx, .int .i64 0]) rfl ?ht rfl ?hf ?_; (case ht => kernel_rfl); (case hf => first | (simp; done) | (simp [splice]; done)); intro w6 HS_; clear HS p0 p1 p2 p3; have HS : St w S w6 [HP.obj g2 28 [.int .i64 1, .int .i64 (a : Int), .string tx, .int .i64 0], HP.obj g4 28 [.int .i64 1, .int .i64 (a : Int), .string tx, .int .i64 0], HP.obj g 37 [.string s, .int .i64 (e : Int)]] := HS_; clear HS_))
  have HB := HS.blk
  try simp only [Exit.inBlock, Exit.then]
  refine bodyPost_ret (results_ct rfl _ _ g2 28 #[.int .i64 1, .int .i64 (a : Int), .string tx, .int .i64 0] (0, 0) _ rfl HB Tryd.underlying28 rfl (by kernel_rfl)) rfl ?_
  exact ⟨rfl, (HS.out 0).out 0⟩
set_option maxHeartbeats 4000000 in
set_option maxRecDepth 20000 in
theorem name_long (g : Nat) (s : ByteArray) (hs : s.size ≤ 1000000) (a e : Nat) (ha : a ≤ s.size) (he : a + runL isNam (s.toList.drop a) = e) (h2 : e ≤ s.size) (tx : ByteArray) (htx : s.extract a e = tx) (hx : 16 < tx.size) :
    FunV Tryd.prog 13 #[.pointer (some ⟨g, 0, none⟩)] (fun _ => True) [HP.obj g 37 [.string s, .int .i64 (a : Int)]] (.tuple #[.agg #[.int .i64 1, .int .i64 (a : Int), .string tx, .int .i64 0], .int .i64 21]) [HP.obj g 37 [.string s, .int .i64 (e : Int)]] := by
  intro w S hS hR
  have HS := St.start hS
  have HR := Aside0.mk hR
  clear hS hR
  have hu := Tryd.underlying37
  have huW := Tryd.underlying28
  have i1 : a ≤ e := by omega
  have hw := word_fun g s hs 1 a e i1 h2
  rw [htx] at hw
  have HW := Aside0.mk hw
  have HE := Aside0.mk (while_fun 21 isNam (enters Tryd.func21 (by kernel_rfl) (by kernel_rfl)) nam_fun g s hs (a : Int) a ha e he)
  have hc : (tx.size : Int) > 16 := by omega
  clear hw htx he
  go_enter Tryd.func13, Tryd.ntmps13
  go_wp2_with (first
    | ((with_reducible refine gate_dst (N := 2) rfl ?_); refine ev_box ?hg (N := 2) ?hd (cs := [.int .i64 0, .int .i64 0, .string ⟨#[]⟩, .int .i64 0]) (t := 28) HS ?hr ?_; (case hd => rfl); (case hg => rfl); (case hr => first | (go_simp; done) | (go_simp; rfl)); intro g2 w1 HS_ hg_; clear HS; have HS := HS_; clear HS_; have q0 := (HS.mv 1).cell 0; have q1 := (HS.mv 1).cell 1))
  refine ((HE.out).call (F := [HP.obj g2 28 [.int .i64 0, .int .i64 0, .string ⟨#[]⟩, .int .i64 0]]) (HS.mv 1) (fun _ _ _ _ => trivial)).mono ?_
  rintro e_ w2 ⟨rfl, HS_⟩
  clear HS q0 q1
  have HS : St w S w2 [HP.obj g 37 [.string s, .int .i64 (a : Int)], HP.obj g2 28 [.int .i64 0, .int .i64 0, .string ⟨#[]⟩, .int .i64 0]] := HS_
  clear HS_
  go_wp2_with fail
  refine ((HW.out).call (F := [HP.obj g2 28 [.int .i64 0, .int .i64 0, .string ⟨#[]⟩, .int .i64 0]]) HS (fun _ _ _ _ => trivial)).mono ?_
  rintro e_ w3 ⟨rfl, HS_⟩
  clear HS 
  have HS : St w S w3 [HP.obj g 37 [.string s, .int .i64 (e : Int)], HP.obj g2 28 [.int .i64 0, .int .i64 0, .string ⟨#[]⟩, .int .i64 0]] := HS_
  clear HS_
  go_wp2_with (first
    | ((with_reducible refine gate_dst (N := 4) rfl ?_); refine ev_box ?hg (N := 4) ?hd (cs := [.int .i64 0, .int .i64 0, .string ⟨#[]⟩, .int .i64 0]) (t := 28) HS ?hr ?_; (case hd => rfl); (case hg => rfl); (case hr => first | (go_simp; done) | (go_simp; rfl)); intro g4 w4 HS_ hg_; clear HS; have HS := HS_; clear HS_; have p0 := HS.cell 0; have p1 := HS.cell 1; have p2 := HS.cell 2; have p3 := HS.cell 3)
    | ((with_reducible refine gate_ (.store 28 (.tmp 4) (.tmp 12)) rfl ?_); refine ev_store rfl rfl 28 (.tmp 4) (.tmp 12) rfl HS (g := g4) (j := 0) rfl rfl (seg := [.int .i64 1, .int .i64 (a : Int), .string tx, .int .i64 0]) rfl ?ht rfl ?hf ?_; (case ht => kernel_rfl); (case hf => first | (simp; done) | (simp [splice]; done)); intro w5 HS_; clear HS p0 p1 p2 p3; have HS : St w S w5 [HP.obj g4 28 [.int .i64 1, .int .i64 (a : Int), .string tx, .int .i64 0], HP.obj g 37 [.string s, .int .i64 (e : Int)], HP.obj g2 28 [.int .i64 0, .int .i64 0, .string ⟨#[]⟩, .int .i64 0]] := HS_; clear HS_; have p0 := HS.cell 0; have p1 := HS.cell 1; have p2 := HS.cell 2; have p3 := HS.cell 3)
    | ((with_reducible refine gate_ (.store 28 (.tmp 2) (.tmp 17)) rfl ?_); refine ev_store rfl rfl 28 (.tmp 2) (.tmp 17) rfl (HS.mv 2) (g := g2) (j := 0) rfl rfl (seg := [.int .i64 1, .int .i64 (a : Int), .string tx, .int .i64 0]) rfl ?ht rfl ?hf ?_; (case ht => kernel_rfl); (case hf => first | (simp; done) | (simp [splice]; done)); intro w6 HS_; clear HS p0 p1 p2 p3; have HS : St w S w6 [HP.obj g2 28 [.int .i64 1, .int .i64 (a : Int), .string tx, .int .i64 0], HP.obj g4 28 [.int .i64 1, .int .i64 (a : Int), .string tx, .int .i64 0], HP.obj g 37 [.string s, .int .i64 (e : Int)]] := HS_; clear HS_))
  have HB := HS.blk
  try simp only [Exit.inBlock, Exit.then]
  refine bodyPost_ret (results_ct rfl _ _ g2 28 #[.int .i64 1, .int .i64 (a : Int), .string tx, .int .i64 0] (0, 0) _ rfl HB Tryd.underlying28 rfl (by kernel_rfl)) rfl ?_
  exact ⟨rfl, (HS.out 0).out 0⟩
set_option maxHeartbeats 4000000 in
set_option maxRecDepth 20000 in
theorem number_ok (g : Nat) (s : ByteArray) (hs : s.size ≤ 1000000) (a e : Nat) (ha : a < s.size) (he : a + 1 + runL isDig (s.toList.drop (a + 1)) = e) (h2 : e ≤ s.size) (tx : ByteArray) (htx : s.extract a e = tx) (hx : (tx.toList == [45]) = false) (n : Int) (hn : parseIntB 64 tx.toList = .ok n) :
    FunV Tryd.prog 15 #[.pointer (some ⟨g, 0, none⟩)] Vars [HP.obj g 37 [.string s, .int .i64 (a : Int)]] (.tuple #[.agg #[.int .i64 2, .int .i64 (a : Int), .string tx, .int .i64 n], .int .i64 0]) [HP.obj g 37 [.string s, .int .i64 (e : Int)]] := by
  intro w S hS hR
  have HS := St.start hS
  have HR := Aside0.mk hR
  clear hS hR
  have hu := Tryd.underlying37
  have huW := Tryd.underlying28
  have i1 : a ≤ e := by omega
  have i2 : a + 1 ≤ s.size := by omega
  have i0 : (0 : Int) ≤ (a : Int) := by omega
  have i3 : (a : Int) ≤ 1000000 := by omega
  have hw1 : IntKind.i64.wrap ((a : Int) + 1) = ((a + 1 : Nat) : Int) := by rw [IntWalk.i64_in _ (by omega)]; omega
  have hw := word_fun g s hs 2 a e i1 h2
  rw [htx] at hw
  have HW := Aside0.mk hw
  have HE := Aside0.mk (while_fun 14 isDig (enters Tryd.func14 (by kernel_rfl) (by kernel_rfl)) digit_fun g s hs (a : Int) (a + 1) i2 e he)
  have hxs : tx.size ≤ 1000000 := by rw [← htx, ByteArray.size_extract]; omega
  have HPn := Aside0.mk (parse_ok tx (by omega) n hn)
  clear hn
  clear hw htx he hxs
  go_enter Tryd.func15, Tryd.ntmps15
  go_wp2_with (first
    | ((with_reducible refine gate_dst (N := 2) rfl ?_); refine ev_box ?hg (N := 2) ?hd (cs := [.int .i64 0, .int .i64 0, .string ⟨#[]⟩, .int .i64 0]) (t := 28) HS ?hr ?_; (case hd => rfl); (case hg => rfl); (case hr => first | (go_simp; done) | (go_simp; rfl)); intro g2 w1 HS_ hg_; clear HS; have HS := HS_; clear HS_; have q0 := (HS.mv 1).cell 0; have q1 := (HS.mv 1).cell 1))
  refine ((HE.out).call (F := [HP.obj g2 28 [.int .i64 0, .int .i64 0, .string ⟨#[]⟩, .int .i64 0]]) (HS.mv 1) (fun _ _ _ _ => trivial)).mono ?_
  rintro e_ w2 ⟨rfl, HS_⟩
  clear HS q0 q1
  have HS : St w S w2 [HP.obj g 37 [.string s, .int .i64 (a : Int)], HP.obj g2 28 [.int .i64 0, .int .i64 0, .string ⟨#[]⟩, .int .i64 0]] := HS_
  clear HS_
  go_wp2_with fail
  refine ((HW.out).call (F := [HP.obj g2 28 [.int .i64 0, .int .i64 0, .string ⟨#[]⟩, .int .i64 0]]) HS (fun _ _ _ _ => trivial)).mono ?_
  rintro e_ w3 ⟨rfl, HS_⟩
  clear HS 
  have HS : St w S w3 [HP.obj g 37 [.string s, .int .i64 (e : Int)], HP.obj g2 28 [.int .i64 0, .int .i64 0, .string ⟨#[]⟩, .int .i64 0]] := HS_
  clear HS_
  go_wp2_with (first
    | ((with_reducible refine gate_dst (N := 4) rfl ?_); refine ev_box ?hg (N := 4) ?hd (cs := [.int .i64 0, .int .i64 0, .string ⟨#[]⟩, .int .i64 0]) (t := 28) HS ?hr ?_; (case hd => rfl); (case hg => rfl); (case hr => first | (go_simp; done) | (go_simp; rfl)); intro g4 w4 HS_ hg_; clear HS; have HS := HS_; clear HS_; have p0 := HS.cell 0; have p1 := HS.cell 1; have p2 := HS.cell 2; have p3 := HS.cell 3)
    | ((with_reducible refine gate_ (.store 28 (.tmp 4) (.tmp 15)) rfl ?_); refine ev_store rfl rfl 28 (.tmp 4) (.tmp 15) rfl HS (g := g4) (j := 0) rfl rfl (seg := [.int .i64 2, .int .i64 (a : Int), .string tx, .int .i64 0]) rfl ?ht rfl ?hf ?_; (case ht => kernel_rfl); (case hf => first | (simp; done) | (simp [splice]; done)); intro w5 HS_; clear HS p0 p1 p2 p3; have HS : St w S w5 [HP.obj g4 28 [.int .i64 2, .int .i64 (a : Int), .string tx, .int .i64 0], HP.obj g 37 [.string s, .int .i64 (e : Int)], HP.obj g2 28 [.int .i64 0, .int .i64 0, .string ⟨#[]⟩, .int .i64 0]] := HS_; clear HS_; have p0 := HS.cell 0; have p1 := HS.cell 1; have p2 := HS.cell 2; have p3 := HS.cell 3))
  refine (HPn.out _).mono ?_
  rintro e_ w7 ⟨rfl, hb⟩
  have HS := HS.later hb
  clear p0 p1 p2 p3 hb
  have p0 := HS.cell 0
  have p1 := HS.cell 1
  have p2 := HS.cell 2
  have p3 := HS.cell 3
  go_wp2_with (first
    | ((with_reducible refine gate_ (.store 2 (.tmp 30) (.tmp 29)) rfl ?_); refine ev_store rfl rfl 2 (.tmp 30) (.tmp 29) rfl HS (g := g4) (j := 3) rfl rfl (seg := [.int .i64 n]) rfl ?ht rfl ?hf ?_; (case ht => kernel_rfl); (case hf => first | (simp; done) | (simp [splice]; done)); intro w8 HS_; clear HS p0 p1 p2 p3; have HS : St w S w8 [HP.obj g4 28 [.int .i64 2, .int .i64 (a : Int), .string tx, .int .i64 n], HP.obj g 37 [.string s, .int .i64 (e : Int)], HP.obj g2 28 [.int .i64 0, .int .i64 0, .string ⟨#[]⟩, .int .i64 0]] := HS_; clear HS_; have p0 := HS.cell 0; have p1 := HS.cell 1; have p2 := HS.cell 2; have p3 := HS.cell 3)
    | ((with_reducible refine gate_ (.store 28 (.tmp 2) (.tmp 31)) rfl ?_); refine ev_store rfl rfl 28 (.tmp 2) (.tmp 31) rfl (HS.mv 2) (g := g2) (j := 0) rfl rfl (seg := [.int .i64 2, .int .i64 (a : Int), .string tx, .int .i64 n]) rfl ?ht rfl ?hf ?_; (case ht => kernel_rfl); (case hf => first | (simp; done) | (simp [splice]; done)); intro w9 HS_; clear HS p0 p1 p2 p3; have HS : St w S w9 [HP.obj g2 28 [.int .i64 2, .int .i64 (a : Int), .string tx, .int .i64 n], HP.obj g4 28 [.int .i64 2, .int .i64 (a : Int), .string tx, .int .i64 n], HP.obj g 37 [.string s, .int .i64 (e : Int)]] := HS_; clear HS_))
  have HB := HS.blk
  try simp only [Exit.inBlock, Exit.then]
  refine bodyPost_ret (results_ct rfl _ _ g2 28 #[.int .i64 2, .int .i64 (a : Int), .string tx, .int .i64 n] (0, 0) _ rfl HB Tryd.underlying28 rfl (by kernel_rfl)) rfl ?_
  exact ⟨rfl, (HS.out 0).out 0⟩
set_option maxHeartbeats 4000000 in
set_option maxRecDepth 20000 in
theorem number_minus (g : Nat) (s : ByteArray) (hs : s.size ≤ 1000000) (a e : Nat) (ha : a < s.size) (he : a + 1 + runL isDig (s.toList.drop (a + 1)) = e) (h2 : e ≤ s.size) (tx : ByteArray) (htx : s.extract a e = tx) (hx : (tx.toList == [45]) = true) :
    FunV Tryd.prog 15 #[.pointer (some ⟨g, 0, none⟩)] Vars [HP.obj g 37 [.string s, .int .i64 (a : Int)]] (.tuple #[.agg #[.int .i64 2, .int .i64 (a : Int), .string tx, .int .i64 0], .int .i64 170]) [HP.obj g 37 [.string s, .int .i64 (e : Int)]] := by
  intro w S hS hR
  have HS := St.start hS
  have HR := Aside0.mk hR
  clear hS hR
  have hu := Tryd.underlying37
  have huW := Tryd.underlying28
  have i1 : a ≤ e := by omega
  have i2 : a + 1 ≤ s.size := by omega
  have i0 : (0 : Int) ≤ (a : Int) := by omega
  have i3 : (a : Int) ≤ 1000000 := by omega
  have hw1 : IntKind.i64.wrap ((a : Int) + 1) = ((a + 1 : Nat) : Int) := by rw [IntWalk.i64_in _ (by omega)]; omega
  have hw := word_fun g s hs 2 a e i1 h2
  rw [htx] at hw
  have HW := Aside0.mk hw
  have HE := Aside0.mk (while_fun 14 isDig (enters Tryd.func14 (by kernel_rfl) (by kernel_rfl)) digit_fun g s hs (a : Int) (a + 1) i2 e he)
  have hxs : tx.size ≤ 1000000 := by rw [← htx, ByteArray.size_extract]; omega
  clear hw htx he hxs
  go_enter Tryd.func15, Tryd.ntmps15
  go_wp2_with (first
    | ((with_reducible refine gate_dst (N := 2) rfl ?_); refine ev_box ?hg (N := 2) ?hd (cs := [.int .i64 0, .int .i64 0, .string ⟨#[]⟩, .int .i64 0]) (t := 28) HS ?hr ?_; (case hd => rfl); (case hg => rfl); (case hr => first | (go_simp; done) | (go_simp; rfl)); intro g2 w1 HS_ hg_; clear HS; have HS := HS_; clear HS_; have q0 := (HS.mv 1).cell 0; have q1 := (HS.mv 1).cell 1))
  refine ((HE.out).call (F := [HP.obj g2 28 [.int .i64 0, .int .i64 0, .string ⟨#[]⟩, .int .i64 0]]) (HS.mv 1) (fun _ _ _ _ => trivial)).mono ?_
  rintro e_ w2 ⟨rfl, HS_⟩
  clear HS q0 q1
  have HS : St w S w2 [HP.obj g 37 [.string s, .int .i64 (a : Int)], HP.obj g2 28 [.int .i64 0, .int .i64 0, .string ⟨#[]⟩, .int .i64 0]] := HS_
  clear HS_
  go_wp2_with fail
  refine ((HW.out).call (F := [HP.obj g2 28 [.int .i64 0, .int .i64 0, .string ⟨#[]⟩, .int .i64 0]]) HS (fun _ _ _ _ => trivial)).mono ?_
  rintro e_ w3 ⟨rfl, HS_⟩
  clear HS 
  have HS : St w S w3 [HP.obj g 37 [.string s, .int .i64 (e : Int)], HP.obj g2 28 [.int .i64 0, .int .i64 0, .string ⟨#[]⟩, .int .i64 0]] := HS_
  clear HS_
  go_wp2_with (first
    | ((with_reducible refine gate_dst (N := 4) rfl ?_); refine ev_box ?hg (N := 4) ?hd (cs := [.int .i64 0, .int .i64 0, .string ⟨#[]⟩, .int .i64 0]) (t := 28) HS ?hr ?_; (case hd => rfl); (case hg => rfl); (case hr => first | (go_simp; done) | (go_simp; rfl)); intro g4 w4 HS_ hg_; clear HS; have HS := HS_; clear HS_; have p0 := HS.cell 0; have p1 := HS.cell 1; have p2 := HS.cell 2; have p3 := HS.cell 3)
    | ((with_reducible refine gate_ (.store 28 (.tmp 4) (.tmp 15)) rfl ?_); refine ev_store rfl rfl 28 (.tmp 4) (.tmp 15) rfl HS (g := g4) (j := 0) rfl rfl (seg := [.int .i64 2, .int .i64 (a : Int), .string tx, .int .i64 0]) rfl ?ht rfl ?hf ?_; (case ht => kernel_rfl); (case hf => first | (simp; done) | (simp [splice]; done)); intro w5 HS_; clear HS p0 p1 p2 p3; have HS : St w S w5 [HP.obj g4 28 [.int .i64 2, .int .i64 (a : Int), .string tx, .int .i64 0], HP.obj g 37 [.string s, .int .i64 (e : Int)], HP.obj g2 28 [.int .i64 0, .int .i64 0, .string ⟨#[]⟩, .int .i64 0]] := HS_; clear HS_; have p0 := HS.cell 0; have p1 := HS.cell 1; have p2 := HS.cell 2; have p3 := HS.cell 3)
    | ((with_reducible refine gate_ (.store 28 (.tmp 2) (.tmp 19)) rfl ?_); refine ev_store rfl rfl 28 (.tmp 2) (.tmp 19) rfl (HS.mv 2) (g := g2) (j := 0) rfl rfl (seg := [.int .i64 2, .int .i64 (a : Int), .string tx, .int .i64 0]) rfl ?ht rfl ?hf ?_; (case ht => kernel_rfl); (case hf => first | (simp; done) | (simp [splice]; done)); intro w6 HS_; clear HS p0 p1 p2 p3; have HS : St w S w6 [HP.obj g2 28 [.int .i64 2, .int .i64 (a : Int), .string tx, .int .i64 0], HP.obj g4 28 [.int .i64 2, .int .i64 (a : Int), .string tx, .int .i64 0], HP.obj g 37 [.string s, .int .i64 (e : Int)]] := HS_; clear HS_))
  have HB := HS.blk
  try simp only [Exit.inBlock, Exit.then]
  refine bodyPost_ret (results_ct rfl _ _ g2 28 #[.int .i64 2, .int .i64 (a : Int), .string tx, .int .i64 0] (0, 0) _ rfl HB Tryd.underlying28 rfl (by kernel_rfl)) rfl ?_
  exact ⟨rfl, (HS.out 0).out 0⟩
set_option maxHeartbeats 4000000 in
set_option maxRecDepth 20000 in
theorem number_bad (g : Nat) (s : ByteArray) (hs : s.size ≤ 1000000) (a e : Nat) (ha : a < s.size) (he : a + 1 + runL isDig (s.toList.drop (a + 1)) = e) (h2 : e ≤ s.size) (tx : ByteArray) (htx : s.extract a e = tx) (hx : (tx.toList == [45]) = false) (hn : ∀ n, parseIntB 64 tx.toList ≠ .ok n) :
    FunV Tryd.prog 15 #[.pointer (some ⟨g, 0, none⟩)] Vars [HP.obj g 37 [.string s, .int .i64 (a : Int)]] (.tuple #[.agg #[.int .i64 2, .int .i64 (a : Int), .string tx, .int .i64 0], .int .i64 172]) [HP.obj g 37 [.string s, .int .i64 (e : Int)]] := by
  intro w S hS hR
  have HS := St.start hS
  have HR := Aside0.mk hR
  clear hS hR
  have hu := Tryd.underlying37
  have huW := Tryd.underlying28
  have i1 : a ≤ e := by omega
  have i2 : a + 1 ≤ s.size := by omega
  have i0 : (0 : Int) ≤ (a : Int) := by omega
  have i3 : (a : Int) ≤ 1000000 := by omega
  have hw1 : IntKind.i64.wrap ((a : Int) + 1) = ((a + 1 : Nat) : Int) := by rw [IntWalk.i64_in _ (by omega)]; omega
  have hw := word_fun g s hs 2 a e i1 h2
  rw [htx] at hw
  have HW := Aside0.mk hw
  have HE := Aside0.mk (while_fun 14 isDig (enters Tryd.func14 (by kernel_rfl) (by kernel_rfl)) digit_fun g s hs (a : Int) (a + 1) i2 e he)
  have hxs : tx.size ≤ 1000000 := by rw [← htx, ByteArray.size_extract]; omega
  have HPn := Aside0.mk (parse_bad tx (by omega) hn)
  clear hn
  clear hw htx he hxs
  go_enter Tryd.func15, Tryd.ntmps15
  go_wp2_with (first
    | ((with_reducible refine gate_dst (N := 2) rfl ?_); refine ev_box ?hg (N := 2) ?hd (cs := [.int .i64 0, .int .i64 0, .string ⟨#[]⟩, .int .i64 0]) (t := 28) HS ?hr ?_; (case hd => rfl); (case hg => rfl); (case hr => first | (go_simp; done) | (go_simp; rfl)); intro g2 w1 HS_ hg_; clear HS; have HS := HS_; clear HS_; have q0 := (HS.mv 1).cell 0; have q1 := (HS.mv 1).cell 1))
  refine ((HE.out).call (F := [HP.obj g2 28 [.int .i64 0, .int .i64 0, .string ⟨#[]⟩, .int .i64 0]]) (HS.mv 1) (fun _ _ _ _ => trivial)).mono ?_
  rintro e_ w2 ⟨rfl, HS_⟩
  clear HS q0 q1
  have HS : St w S w2 [HP.obj g 37 [.string s, .int .i64 (a : Int)], HP.obj g2 28 [.int .i64 0, .int .i64 0, .string ⟨#[]⟩, .int .i64 0]] := HS_
  clear HS_
  go_wp2_with fail
  refine ((HW.out).call (F := [HP.obj g2 28 [.int .i64 0, .int .i64 0, .string ⟨#[]⟩, .int .i64 0]]) HS (fun _ _ _ _ => trivial)).mono ?_
  rintro e_ w3 ⟨rfl, HS_⟩
  clear HS 
  have HS : St w S w3 [HP.obj g 37 [.string s, .int .i64 (e : Int)], HP.obj g2 28 [.int .i64 0, .int .i64 0, .string ⟨#[]⟩, .int .i64 0]] := HS_
  clear HS_
  go_wp2_with (first
    | ((with_reducible refine gate_dst (N := 4) rfl ?_); refine ev_box ?hg (N := 4) ?hd (cs := [.int .i64 0, .int .i64 0, .string ⟨#[]⟩, .int .i64 0]) (t := 28) HS ?hr ?_; (case hd => rfl); (case hg => rfl); (case hr => first | (go_simp; done) | (go_simp; rfl)); intro g4 w4 HS_ hg_; clear HS; have HS := HS_; clear HS_; have p0 := HS.cell 0; have p1 := HS.cell 1; have p2 := HS.cell 2; have p3 := HS.cell 3)
    | ((with_reducible refine gate_ (.store 28 (.tmp 4) (.tmp 15)) rfl ?_); refine ev_store rfl rfl 28 (.tmp 4) (.tmp 15) rfl HS (g := g4) (j := 0) rfl rfl (seg := [.int .i64 2, .int .i64 (a : Int), .string tx, .int .i64 0]) rfl ?ht rfl ?hf ?_; (case ht => kernel_rfl); (case hf => first | (simp; done) | (simp [splice]; done)); intro w5 HS_; clear HS p0 p1 p2 p3; have HS : St w S w5 [HP.obj g4 28 [.int .i64 2, .int .i64 (a : Int), .string tx, .int .i64 0], HP.obj g 37 [.string s, .int .i64 (e : Int)], HP.obj g2 28 [.int .i64 0, .int .i64 0, .string ⟨#[]⟩, .int .i64 0]] := HS_; clear HS_; have p0 := HS.cell 0; have p1 := HS.cell 1; have p2 := HS.cell 2; have p3 := HS.cell 3))
  refine (HPn.out _ (HR.out _ HS.ext)).mono ?_
  rintro e_ w7 ⟨⟨r_, t_, q_, rfl⟩, hb⟩
  have HS := HS.later hb
  clear p0 p1 p2 p3 hb
  have p0 := HS.cell 0
  have p1 := HS.cell 1
  have p2 := HS.cell 2
  have p3 := HS.cell 3
  go_wp2_with (first
    | ((with_reducible refine gate_ (.store 28 (.tmp 2) (.tmp 28)) rfl ?_); refine ev_store rfl rfl 28 (.tmp 2) (.tmp 28) rfl (HS.mv 2) (g := g2) (j := 0) rfl rfl (seg := [.int .i64 2, .int .i64 (a : Int), .string tx, .int .i64 0]) rfl ?ht rfl ?hf ?_; (case ht => kernel_rfl); (case hf => first | (simp; done) | (simp [splice]; done)); intro w9 HS_; clear HS p0 p1 p2 p3; have HS : St w S w9 [HP.obj g2 28 [.int .i64 2, .int .i64 (a : Int), .string tx, .int .i64 0], HP.obj g4 28 [.int .i64 2, .int .i64 (a : Int), .string tx, .int .i64 0], HP.obj g 37 [.string s, .int .i64 (e : Int)]] := HS_; clear HS_))
  have HB := HS.blk
  try simp only [Exit.inBlock, Exit.then]
  refine bodyPost_ret (results_ct rfl _ _ g2 28 #[.int .i64 2, .int .i64 (a : Int), .string tx, .int .i64 0] (0, 0) _ rfl HB Tryd.underlying28 rfl (by kernel_rfl)) rfl ?_
  exact ⟨rfl, (HS.out 0).out 0⟩
set_option maxHeartbeats 4000000 in
set_option maxRecDepth 20000 in
theorem sign_ok (g : Nat) (s : ByteArray) (hs : s.size ≤ 1000000) (a : Nat) (ha : a < s.size) (c : UInt8) (hc : s[a] = c) (hx : isSig c = true) :
    FunV Tryd.prog 11 #[.pointer (some ⟨g, 0, none⟩)] (fun _ => True) [HP.obj g 37 [.string s, .int .i64 (a : Int)]] (.tuple #[.agg #[.int .i64 4, .int .i64 (a : Int), .string (one c), .int .i64 0], .int .i64 0]) [HP.obj g 37 [.string s, .int .i64 ((a + 1 : Nat) : Int)]] := by
  intro w S hS hR
  have HS := St.start hS
  have HR := Aside0.mk hR
  clear hS hR
  have hu := Tryd.underlying37
  have huW := Tryd.underlying28
  have i0 : (0 : Int) ≤ (a : Int) := by omega
  have iI : (a : Int) < (s.size : Int) := by omega
  have i3 : (a : Int) ≤ 1000000 := by omega
  have hxx : ∀ h : a < s.size, ((s[a]'h).toNat : Int) = (c.toNat : Int) := fun h => by rw [← hc]
  have hw1 : IntKind.i64.wrap ((a : Int) + 1) = ((a + 1 : Nat) : Int) := by rw [IntWalk.i64_in _ (by omega)]; omega
  have hw := word_fun g s hs 4 a (a + 1) (by omega) (by omega)
  rw [show s.extract a (a + 1) = one c from ext_one s a ha c hc] at hw
  have HW := Aside0.mk hw
  clear hw
  obtain ⟨r, hr, hsg⟩ : ∃ r : Int, (∀ w, Calls Tryd.prog 19 #[.string ⟨#[40, 41, 44, 59, 61, 42]⟩, .int .u8 (c.toNat : Int)] w fun e w' => e = .returned (.int .i64 r) ∧ w' = w) ∧ (isSig c = true ↔ 0 ≤ r) := sig_fun c
  rw [hx] at hsg
  have hrr : 0 ≤ r := by simpa using hsg
  have HI := Aside0.mk hr
  clear hc hr hsg hx
  generalize (c.toNat : Int) = m at hxx HI
  go_enter Tryd.func11, Tryd.ntmps11
  go_wp2_with (first
    | ((with_reducible refine gate_dst (N := 2) rfl ?_); refine ev_box ?hg (N := 2) ?hd (cs := [.int .i64 0, .int .i64 0, .string ⟨#[]⟩, .int .i64 0]) (t := 28) HS ?hr ?_; (case hd => rfl); (case hg => rfl); (case hr => first | (go_simp; done) | (go_simp; rfl)); intro g2 w1 HS_ hg_; clear HS; have HS := HS_; clear HS_))
  refine start_ (n := 11) (S := fun w' => w'.cell? ⟨g, 0, none⟩ = some (.string s) ∧ w'.cell? ⟨g, 1, none⟩ = some (.int .i64 (a : Int))) (ds := []) #[false, false, false, false, false, false, false, false, false, false, false] (by kernel_rfl) rfl rfl ⟨(HS.drew.mv 1).cell 0, (HS.drew.mv 1).cell 1⟩ (fun hHeld => ?_)
  refine pure_ (i := 0) (N := some 4) (v := ?_) (a' := ?_) #[true, false, false, false, false, false, false, false, false, false, false] rfl rfl (by kernel_rfl) (fun _ _ _ h => h) (Or.inl ⟨by rfl, ?_⟩) ?_ ?_
  rotate_left
  · intro w'
    go_simp
    with_reducible rfl
  rotate_left
  · simp only [Act.put, List.setIfInBounds_toArray, List.set_cons_zero, List.set_cons_succ, i64_w, i32_w]
    rfl
  refine pure_ (i := 1) (N := some 5) (v := ?_) (a' := ?_) #[true, true, false, false, false, false, false, false, false, false, false] rfl rfl (by kernel_rfl) (fun _ _ _ h => h) (Or.inl ⟨by rfl, ?_⟩) ?_ ?_
  rotate_left
  · intro w'
    go_simp
    with_reducible rfl
  rotate_left
  · simp only [Act.put, List.setIfInBounds_toArray, List.set_cons_zero, List.set_cons_succ, i64_w, i32_w]
    rfl
  refine pure_ (i := 2) (N := some 6) (v := ?_) (a' := ?_) #[true, true, true, false, false, false, false, false, false, false, false] rfl rfl (by kernel_rfl) (fun _ _ _ h => h) (Or.inl ⟨by rfl, ?_⟩) ?_ ?_
  rotate_left
  · intro w'
    go_simp
    with_reducible rfl
  rotate_left
  · simp only [Act.put, List.setIfInBounds_toArray, List.set_cons_zero, List.set_cons_succ, i64_w, i32_w]
    rfl
  refine pure_ (i := 4) (N := some 8) (v := ?_) (a' := ?_) #[true, true, true, false, true, false, false, false, false, false, false] rfl rfl (by kernel_rfl) (fun _ _ _ h => h) (Or.inl ⟨by rfl, ?_⟩) ?_ ?_
  rotate_left
  · intro w'
    go_simp
    with_reducible rfl
  rotate_left
  · simp only [Act.put, List.setIfInBounds_toArray, List.set_cons_zero, List.set_cons_succ, i64_w, i32_w]
    rfl
  refine pure_ (i := 5) (N := some 9) (v := ?_) (a' := ?_) #[true, true, true, false, true, true, false, false, false, false, false] rfl rfl (by kernel_rfl) (fun _ _ _ h => h) (Or.inl ⟨by rfl, ?_⟩) ?_ ?_
  rotate_left
  · intro w'
    go_simp
    with_reducible rfl
  rotate_left
  · simp only [Act.put, List.setIfInBounds_toArray, List.set_cons_zero, List.set_cons_succ, i64_w, i32_w]
    rfl
  refine pure_ (i := 6) (N := some 10) (v := ?_) (a' := ?_) #[true, true, true, false, true, true, true, false, false, false, false] rfl rfl (by kernel_rfl) (fun _ _ _ h => h) (Or.inl ⟨by rfl, ?_⟩) ?_ ?_
  rotate_left
  · intro w'
    go_simp
    with_reducible rfl
  rotate_left
  · simp only [Act.put, List.setIfInBounds_toArray, List.set_cons_zero, List.set_cons_succ, i64_w, i32_w]
    rfl
  refine take_ (i := 3) (N := some 7) (v := ?_) (a' := ?_) #[true, true, true, true, true, true, true, false, false, false, false] rfl rfl (by kernel_rfl) (fun _ _ _ h => h) (Or.inl ⟨by rfl, ?_⟩) hHeld ?_ ?_
  rotate_left
  · rintro w' ⟨s0, s1⟩
    go_simp
    with_reducible rfl
  rotate_left
  · simp only [Act.put, List.setIfInBounds_toArray, List.set_cons_zero, List.set_cons_succ, i64_w, i32_w]
    rfl
  refine take_ (i := 7) (N := some 11) (v := ?_) (a' := ?_) #[true, true, true, true, true, true, true, true, false, false, false] rfl rfl (by kernel_rfl) (fun _ _ _ h => h) (Or.inl ⟨by rfl, ?_⟩) hHeld ?_ ?_
  rotate_left
  · rintro w' ⟨s0, s1⟩
    go_simp
    with_reducible rfl
  rotate_left
  · simp only [Act.put, List.setIfInBounds_toArray, List.set_cons_zero, List.set_cons_succ, i64_w, i32_w]
    rfl
  refine take_ (i := 8) (N := some 12) (v := ?_) (a' := ?_) #[true, true, true, true, true, true, true, true, true, false, false] rfl rfl (by kernel_rfl) (fun _ _ _ h => h) (Or.inl ⟨by rfl, ?_⟩) hHeld ?_ ?_
  rotate_left
  · rintro w' ⟨s0, s1⟩
    go_simp
    with_reducible rfl
  rotate_left
  · simp only [Act.put, List.setIfInBounds_toArray, List.set_cons_zero, List.set_cons_succ, i64_w, i32_w]
    rfl
  refine one_ (i := 9) (N := some 13) #[true, true, true, true, true, true, true, true, true, true, false] rfl rfl (by kernel_rfl) (by decide) (fun K hK => ?_)
  refine goes_ Tryd.func19 (by kernel_rfl) rfl #[.string ⟨#[40, 41, 44, 59, 61, 42]⟩, .int .u8 m] (by rfl) rfl rfl (by simp only [List.map_toArray, List.map_cons, List.map_nil]; rfl) ?_
  refine (HI.out _).mono ?_
  rintro e_ w5 ⟨rfl, hw5⟩
  refine ⟨_, rfl, ?_⟩
  have HS_ := HS.drew
  rw [← hw5] at HS_
  clear HS hw5
  have HS := HS_
  clear HS_
  refine hK.out _ _ ⟨(HS.mv 1).cell 0, (HS.mv 1).cell 1⟩ (fun hHeld => ?_)
  clear hK K
  refine norm_ (a' := ?_) ?_ ?_
  rotate_left
  · show Act.put _ (some 13) _ = _
    simp only [Act.put, List.setIfInBounds_toArray, List.set_cons_zero, List.set_cons_succ, i64_w, i32_w]
    rfl
  refine pure_ (i := 10) (N := some 14) (v := ?_) (a' := ?_) #[true, true, true, true, true, true, true, true, true, true, true] rfl rfl (by kernel_rfl) (fun _ _ _ h => h) (Or.inl ⟨by rfl, ?_⟩) ?_ ?_
  rotate_left
  · intro w'
    go_simp
    with_reducible rfl
  rotate_left
  · simp only [Act.put, List.setIfInBounds_toArray, List.set_cons_zero, List.set_cons_succ, i64_w, i32_w]
    rfl
  refine done_ (by kernel_rfl) ?_
  clear hHeld
  have q0 := (HS.mv 1).cell 0
  have q1 := (HS.mv 1).cell 1
  go_wp2_with fail
  refine ((HW.out).call (F := [HP.obj g2 28 [.int .i64 0, .int .i64 0, .string ⟨#[]⟩, .int .i64 0]]) (HS.mv 1) (fun _ _ _ _ => trivial)).mono ?_
  rintro e_ w6 ⟨rfl, HS_⟩
  clear HS q0 q1
  have HS : St w S w6 [HP.obj g 37 [.string s, .int .i64 ((a + 1 : Nat) : Int)], HP.obj g2 28 [.int .i64 0, .int .i64 0, .string ⟨#[]⟩, .int .i64 0]] := HS_
  clear HS_
  go_wp2_with (first
    | ((with_reducible refine gate_ (.store 28 (.tmp 2) (.tmp 26)) rfl ?_); refine ev_store rfl rfl 28 (.tmp 2) (.tmp 26) rfl (HS.mv 1) (g := g2) (j := 0) rfl rfl (seg := [.int .i64 4, .int .i64 (a : Int), .string (one c), .int .i64 0]) rfl ?ht rfl ?hf ?_; (case ht => kernel_rfl); (case hf => first | (simp; done) | (simp [splice]; done)); intro w7 HS_; clear HS; have HS : St w S w7 [HP.obj g2 28 [.int .i64 4, .int .i64 (a : Int), .string (one c), .int .i64 0], HP.obj g 37 [.string s, .int .i64 ((a + 1 : Nat) : Int)]] := HS_; clear HS_))
  have HB := HS.blk
  try simp only [Exit.inBlock, Exit.then]
  refine bodyPost_ret (results_ct rfl _ _ g2 28 #[.int .i64 4, .int .i64 (a : Int), .string (one c), .int .i64 0] (0, 0) _ rfl HB Tryd.underlying28 rfl (by kernel_rfl)) rfl ?_
  exact ⟨rfl, HS.out 0⟩
set_option maxHeartbeats 4000000 in
set_option maxRecDepth 20000 in
theorem sign_no (g : Nat) (s : ByteArray) (hs : s.size ≤ 1000000) (a : Nat) (ha : a < s.size) (c : UInt8) (hc : s[a] = c) (hx : isSig c = false) :
    FunV Tryd.prog 11 #[.pointer (some ⟨g, 0, none⟩)] (fun _ => True) [HP.obj g 37 [.string s, .int .i64 (a : Int)]] (.tuple #[.agg #[.int .i64 0, .int .i64 (a : Int), .string ⟨#[]⟩, .int .i64 0], .int .i64 170]) [HP.obj g 37 [.string s, .int .i64 (a : Int)]] := by
  intro w S hS hR
  have HS := St.start hS
  have HR := Aside0.mk hR
  clear hS hR
  have hu := Tryd.underlying37
  have huW := Tryd.underlying28
  have i0 : (0 : Int) ≤ (a : Int) := by omega
  have iI : (a : Int) < (s.size : Int) := by omega
  have i3 : (a : Int) ≤ 1000000 := by omega
  have hxx : ∀ h : a < s.size, ((s[a]'h).toNat : Int) = (c.toNat : Int) := fun h => by rw [← hc]
  have hw1 : IntKind.i64.wrap ((a : Int) + 1) = ((a + 1 : Nat) : Int) := by rw [IntWalk.i64_in _ (by omega)]; omega
  obtain ⟨r, hr, hsg⟩ : ∃ r : Int, (∀ w, Calls Tryd.prog 19 #[.string ⟨#[40, 41, 44, 59, 61, 42]⟩, .int .u8 (c.toNat : Int)] w fun e w' => e = .returned (.int .i64 r) ∧ w' = w) ∧ (isSig c = true ↔ 0 ≤ r) := sig_fun c
  rw [hx] at hsg
  have hrr : r < 0 := by simpa using hsg
  have HI := Aside0.mk hr
  clear hc hr hsg hx
  generalize (c.toNat : Int) = m at hxx HI
  go_enter Tryd.func11, Tryd.ntmps11
  go_wp2_with (first
    | ((with_reducible refine gate_dst (N := 2) rfl ?_); refine ev_box ?hg (N := 2) ?hd (cs := [.int .i64 0, .int .i64 0, .string ⟨#[]⟩, .int .i64 0]) (t := 28) HS ?hr ?_; (case hd => rfl); (case hg => rfl); (case hr => first | (go_simp; done) | (go_simp; rfl)); intro g2 w1 HS_ hg_; clear HS; have HS := HS_; clear HS_))
  refine start_ (n := 11) (S := fun w' => w'.cell? ⟨g, 0, none⟩ = some (.string s) ∧ w'.cell? ⟨g, 1, none⟩ = some (.int .i64 (a : Int))) (ds := []) #[false, false, false, false, false, false, false, false, false, false, false] (by kernel_rfl) rfl rfl ⟨(HS.drew.mv 1).cell 0, (HS.drew.mv 1).cell 1⟩ (fun hHeld => ?_)
  refine pure_ (i := 0) (N := some 4) (v := ?_) (a' := ?_) #[true, false, false, false, false, false, false, false, false, false, false] rfl rfl (by kernel_rfl) (fun _ _ _ h => h) (Or.inl ⟨by rfl, ?_⟩) ?_ ?_
  rotate_left
  · intro w'
    go_simp
    with_reducible rfl
  rotate_left
  · simp only [Act.put, List.setIfInBounds_toArray, List.set_cons_zero, List.set_cons_succ, i64_w, i32_w]
    rfl
  refine pure_ (i := 1) (N := some 5) (v := ?_) (a' := ?_) #[true, true, false, false, false, false, false, false, false, false, false] rfl rfl (by kernel_rfl) (fun _ _ _ h => h) (Or.inl ⟨by rfl, ?_⟩) ?_ ?_
  rotate_left
  · intro w'
    go_simp
    with_reducible rfl
  rotate_left
  · simp only [Act.put, List.setIfInBounds_toArray, List.set_cons_zero, List.set_cons_succ, i64_w, i32_w]
    rfl
  refine pure_ (i := 2) (N := some 6) (v := ?_) (a' := ?_) #[true, true, true, false, false, false, false, false, false, false, false] rfl rfl (by kernel_rfl) (fun _ _ _ h => h) (Or.inl ⟨by rfl, ?_⟩) ?_ ?_
  rotate_left
  · intro w'
    go_simp
    with_reducible rfl
  rotate_left
  · simp only [Act.put, List.setIfInBounds_toArray, List.set_cons_zero, List.set_cons_succ, i64_w, i32_w]
    rfl
  refine pure_ (i := 4) (N := some 8) (v := ?_) (a' := ?_) #[true, true, true, false, true, false, false, false, false, false, false] rfl rfl (by kernel_rfl) (fun _ _ _ h => h) (Or.inl ⟨by rfl, ?_⟩) ?_ ?_
  rotate_left
  · intro w'
    go_simp
    with_reducible rfl
  rotate_left
  · simp only [Act.put, List.setIfInBounds_toArray, List.set_cons_zero, List.set_cons_succ, i64_w, i32_w]
    rfl
  refine pure_ (i := 5) (N := some 9) (v := ?_) (a' := ?_) #[true, true, true, false, true, true, false, false, false, false, false] rfl rfl (by kernel_rfl) (fun _ _ _ h => h) (Or.inl ⟨by rfl, ?_⟩) ?_ ?_
  rotate_left
  · intro w'
    go_simp
    with_reducible rfl
  rotate_left
  · simp only [Act.put, List.setIfInBounds_toArray, List.set_cons_zero, List.set_cons_succ, i64_w, i32_w]
    rfl
  refine pure_ (i := 6) (N := some 10) (v := ?_) (a' := ?_) #[true, true, true, false, true, true, true, false, false, false, false] rfl rfl (by kernel_rfl) (fun _ _ _ h => h) (Or.inl ⟨by rfl, ?_⟩) ?_ ?_
  rotate_left
  · intro w'
    go_simp
    with_reducible rfl
  rotate_left
  · simp only [Act.put, List.setIfInBounds_toArray, List.set_cons_zero, List.set_cons_succ, i64_w, i32_w]
    rfl
  refine take_ (i := 3) (N := some 7) (v := ?_) (a' := ?_) #[true, true, true, true, true, true, true, false, false, false, false] rfl rfl (by kernel_rfl) (fun _ _ _ h => h) (Or.inl ⟨by rfl, ?_⟩) hHeld ?_ ?_
  rotate_left
  · rintro w' ⟨s0, s1⟩
    go_simp
    with_reducible rfl
  rotate_left
  · simp only [Act.put, List.setIfInBounds_toArray, List.set_cons_zero, List.set_cons_succ, i64_w, i32_w]
    rfl
  refine take_ (i := 7) (N := some 11) (v := ?_) (a' := ?_) #[true, true, true, true, true, true, true, true, false, false, false] rfl rfl (by kernel_rfl) (fun _ _ _ h => h) (Or.inl ⟨by rfl, ?_⟩) hHeld ?_ ?_
  rotate_left
  · rintro w' ⟨s0, s1⟩
    go_simp
    with_reducible rfl
  rotate_left
  · simp only [Act.put, List.setIfInBounds_toArray, List.set_cons_zero, List.set_cons_succ, i64_w, i32_w]
    rfl
  refine take_ (i := 8) (N := some 12) (v := ?_) (a' := ?_) #[true, true, true, true, true, true, true, true, true, false, false] rfl rfl (by kernel_rfl) (fun _ _ _ h => h) (Or.inl ⟨by rfl, ?_⟩) hHeld ?_ ?_
  rotate_left
  · rintro w' ⟨s0, s1⟩
    go_simp
    with_reducible rfl
  rotate_left
  · simp only [Act.put, List.setIfInBounds_toArray, List.set_cons_zero, List.set_cons_succ, i64_w, i32_w]
    rfl
  refine one_ (i := 9) (N := some 13) #[true, true, true, true, true, true, true, true, true, true, false] rfl rfl (by kernel_rfl) (by decide) (fun K hK => ?_)
  refine goes_ Tryd.func19 (by kernel_rfl) rfl #[.string ⟨#[40, 41, 44, 59, 61, 42]⟩, .int .u8 m] (by rfl) rfl rfl (by simp only [List.map_toArray, List.map_cons, List.map_nil]; rfl) ?_
  refine (HI.out _).mono ?_
  rintro e_ w5 ⟨rfl, hw5⟩
  refine ⟨_, rfl, ?_⟩
  have HS_ := HS.drew
  rw [← hw5] at HS_
  clear HS hw5
  have HS := HS_
  clear HS_
  refine hK.out _ _ ⟨(HS.mv 1).cell 0, (HS.mv 1).cell 1⟩ (fun hHeld => ?_)
  clear hK K
  refine norm_ (a' := ?_) ?_ ?_
  rotate_left
  · show Act.put _ (some 13) _ = _
    simp only [Act.put, List.setIfInBounds_toArray, List.set_cons_zero, List.set_cons_succ, i64_w, i32_w]
    rfl
  refine pure_ (i := 10) (N := some 14) (v := ?_) (a' := ?_) #[true, true, true, true, true, true, true, true, true, true, true] rfl rfl (by kernel_rfl) (fun _ _ _ h => h) (Or.inl ⟨by rfl, ?_⟩) ?_ ?_
  rotate_left
  · intro w'
    go_simp
    with_reducible rfl
  rotate_left
  · simp only [Act.put, List.setIfInBounds_toArray, List.set_cons_zero, List.set_cons_succ, i64_w, i32_w]
    rfl
  refine done_ (by kernel_rfl) ?_
  clear hHeld
  have q0 := (HS.mv 1).cell 0
  have q1 := (HS.mv 1).cell 1
  go_wp2_with (first
    | ((with_reducible refine gate_ (.store 28 (.tmp 2) (.tmp 19)) rfl ?_); refine ev_store rfl rfl 28 (.tmp 2) (.tmp 19) rfl HS (g := g2) (j := 0) rfl rfl (seg := [.int .i64 0, .int .i64 (a : Int), .string ⟨#[]⟩, .int .i64 0]) rfl ?ht rfl ?hf ?_; (case ht => kernel_rfl); (case hf => first | (simp; done) | (simp [splice]; done)); intro w7 HS_; clear HS q0 q1; have HS : St w S w7 [HP.obj g2 28 [.int .i64 0, .int .i64 (a : Int), .string ⟨#[]⟩, .int .i64 0], HP.obj g 37 [.string s, .int .i64 (a : Int)]] := HS_; clear HS_))
  have HB := HS.blk
  try simp only [Exit.inBlock, Exit.then]
  refine bodyPost_ret (results_ct rfl _ _ g2 28 #[.int .i64 0, .int .i64 (a : Int), .string ⟨#[]⟩, .int .i64 0] (0, 0) _ rfl HB Tryd.underlying28 rfl (by kernel_rfl)) rfl ?_
  exact ⟨rfl, HS.out 0⟩
end Go.Proofs.YtkjfecpfjfkpnaaDoor.Lex
