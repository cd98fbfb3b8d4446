/- slices.Insert of one row into a store's rows, walked. -/
import Derived.Test.YtphenpncdhgdhaaProg
import Derived.Test.YtphenpncdhgdhaaSlIns
import Derived.Shelf.Spec.SlicesInsertGrow
import Derived.KernelRfl
import Derived.IntWalk
namespace Go.Proofs.Ytphenpncdhgdhaa.Ver
open Go.RowKit Go.Lib Go.Shelf Go.Proofs.YtphenpncdhgdhaaW.PrintWords Go.Proofs.YtphenpncdhgdhaaW.PrintLast Go.Proofs.YtphenpncdhgdhaaW.PrintMore Go.Proofs.Ytphenpncdhgdhaa.Sl
set_option linter.unusedVariables false
set_option linter.unusedSimpArgs false
abbrev kR : Kd (List Value) := raw 2
theorem infoR : (Try.prog.info? 86).map (fun i => (i.zero, i.size, i.bytes)) = some (some (.agg #[.string ⟨#[]⟩, .slice none 0 0]), 2, 40) := by kernel_rfl
theorem flatR : Flat kR := raw_flat 2
theorem sizeR : (Try.prog.info? 86).map (·.size) = some 2 := by kernel_rfl
set_option maxHeartbeats 4000000 in
set_option maxRecDepth 10000 in
theorem ins_end (u : Value) (xs : List (List Value)) (y : List Value) (gv cv : Nat) (hbig : (xs.length + 1) * 40 ≤ 140737488355328) :
    Fun Try.prog 85 #[u, .int .i64 xs.length, .slice (some ⟨gv, 0, none⟩) 1 cv] (fun _ => True) [HP.row kR 86 u xs, HP.row kR 86 (.slice (some ⟨gv, 0, none⟩) 1 cv) [y]]
      (fun r => [HP.row kR 86 r (xs ++ [y])]) := by
  intro w S hS hR
  have HS := St.start hS
  clear hS hR
  have hu48 := Try.underlying74
  rcases raw_form HS with ⟨rfl, rfl⟩ | ⟨g, c, rfl, hc⟩
  all_goals
    go_enter Try.func85, Try.ntmps85
    go_wp2_with ((with_reducible refine gate_dst (N := 25) rfl ?_); at_builtin; refine ev_rows kR flatR rfl (.tmp 23) (.tmp 24) 74 86 _ 40 rfl Try.underlying74 infoR rfl (by decide) (by omega) _ _ [y] _ cv rfl rfl HS ?hc ?hl ?_; (case hc => exact (St.row_reads (HS.mv 1)).2.2); (case hl => exact hbig); intro v2 w2 H2)
    all_goals
      go_ret
      exact ⟨_, rfl, H2.out 1⟩
set_option maxHeartbeats 4000000 in
set_option maxRecDepth 100000 in
theorem ins_mid (g c : Nat) (xs : List (List Value)) (y : List Value) (i gv cv : Nat) (hi : i < xs.length) (hc : xs.length ≤ c) (hbig : (xs.length + 1) * 40 ≤ 140737488355328) :
    Fun Try.prog 85 #[.slice (some ⟨g, 0, none⟩) xs.length c, .int .i64 i, .slice (some ⟨gv, 0, none⟩) 1 cv] (fun _ => True)
      [HP.row kR 86 (.slice (some ⟨g, 0, none⟩) xs.length c) xs, HP.row kR 86 (.slice (some ⟨gv, 0, none⟩) 1 cv) [y]] (fun r => [HP.row kR 86 r (xs.take i ++ y :: xs.drop i)]) := by
  intro w S hS hR
  obtain ⟨cur, H1, -, -, hc63, hcl, hct, hxs⟩ := raw_open (St.start hS)
  obtain ⟨curv, H2, -, -, hcv63, hcvl, hcvt, hys⟩ := raw_open (H1.mv 1)
  clear hS hR H1
  have hy : Cells 2 y := hys y (by simp)
  have hyl := hy.1
  have hct0 : curv.take 2 = y := by simpa using hcvt
  obtain ⟨n, hn⟩ : ∃ n, xs.length = n := ⟨_, rfl⟩
  rw [hn] at hi hc hbig hct ⊢
  have hgg : gv ≠ g := st_apart H2
  have hgv := H2.blk
  have hg := (H2.mv 1).blk
  have hlt : gv < w.heap.size := (Array.getElem?_eq_some_iff.1 hgv).1
  have hltg : g < w.heap.size := (Array.getElem?_eq_some_iff.1 hg).1
  have hu48 := Try.underlying74
  have hxf : xs.flatten.length = n * 2 := by rw [← hn]; exact flatten_len hxs
  have hsrcv : ∀ W : World, W.heap[gv]? = w.heap[gv]? → ∀ k v, y[k]? = some v → W.cell? ((⟨gv, 0, none⟩ : Addr).add k) = some v := fun W hW k v hk => by
    have hk2 : k < 2 := by have := (List.getElem?_eq_some_iff.1 hk).1; omega
    rw [Addr.add_lit]
    have h1 : curv[k]? = some v := by rw [← hct0, List.getElem?_take_of_lt hk2] at hk; exact hk
    simp [World.cell?, hW, hgv, h1]
  have hsrcd : ∀ W : World, W.heap[g]? = w.heap[g]? → ∀ k v, (xs.drop i).flatten[k]? = some v → W.cell? ((⟨g, i * 2, none⟩ : Addr).add k) = some v := fun W hW k v hk => by
    rw [Addr.add_lit]
    rw [← flatten_drop hxs, List.getElem?_drop] at hk
    have hk2 : i * 2 + k < n * 2 := by have := (List.getElem?_eq_some_iff.1 hk).1; omega
    have h1 : cur[i * 2 + k]? = some v := by rw [← hct, List.getElem?_take_of_lt hk2] at hk; exact hk
    simp [World.cell?, hW, hg, h1]
  have hdl : (xs.drop i).flatten.length = (n - i) * 2 := by rw [← flatten_drop hxs, List.length_drop, hxf]; omega
  have hd1 : ∀ v ∈ (xs.drop i).flatten, v.oneCell' = true := fun v hv => by
    obtain ⟨x, hx, hv⟩ := List.mem_flatten.1 hv
    exact (hxs x (List.mem_of_mem_drop hx)).2 v hv
  have hz1 : ((i : Int) == (n : Int)) = false := by rw [beq_eq_false_iff_ne]; omega
  have hw1 : IntKind.i64.wrap ((i : Int) + 1) = (i : Int) + 1 := IntWalk.i64_in _ (by omega)
  have hw2 : IntKind.i64.wrap ((n : Int) + 1) = (n : Int) + 1 := IntWalk.i64_in _ (by omega)
  have hw3 : IntKind.i64.wrap ((n : Int) + 1 - (i : Int)) = ((n + 1 - i : Nat) : Int) := by rw [IntWalk.i64_in _ (by omega)]; omega
  have hb1 : (0 : Int) ≤ (i : Int) + 1 := by omega
  have htn : ((i : Int) + 1).toNat = i + 1 := by omega
  have htn2 : ((n : Int) + 1).toNat = n + 1 := by omega
  have hb3 : (i : Int) ≤ (n : Int) := by omega
  have hb4 : (i : Int) + 1 ≤ (n : Int) + 1 := by omega
  have hb5 : (i : Int) ≤ (n : Int) + 1 := by omega
  have hci : ¬ (c = i) := by omega
  have hin : i ≤ n := by omega
  by_cases hroom : n + 1 ≤ c
  · have hr : decide ((n : Int) + 1 > (c : Int)) = false := decide_eq_false (by omega)
    have hci1 : ¬ (c = i + 1) := by omega
    have hb6 : (n : Int) + 1 ≤ (c : Int) := by omega
    have hov : ∀ lb cb, (callFunc 93 #[.slice (some ⟨gv, 0, none⟩) 1 cv, .slice (some ⟨g, (i + 1) * 2, none⟩) lb cb]).run Try.prog w = .ok (.value (.bool false)) w := fun lb cb => by
      rw [run_callFunc_extern Try.func93 (by kernel_rfl) (by kernel_rfl) (by kernel_rfl) (e := Extern.SlicesOverlaps.overlaps #[74, 74] #[4]) (by kernel_rfl)]
      rw [Lib.run_overlaps_apart w 74 4 86 Try.underlying74 2 (fun _ => by kernel_rfl) ⟨gv, 0, none⟩ ⟨g, (i + 1) * 2, none⟩ 1 cv lb cb hgg 86 86 (cv * 2) (c * 2) (by simp [World.shape?, hgv, hcvl]) (by simp [World.shape?, hg, hcl]) (by omega) (by simp [World.frozen?, hgv]) (by simp [World.frozen?, hgv])]
      rfl
    have hcp1 : ∀ ty dc sc, (Builtin.copy_ #[74, 74] ty #[.slice (some ⟨g, (i + 1) * 2, none⟩) (n - i) dc, .slice (some ⟨g, i * 2, none⟩) (n + 1 - i) sc]).run Try.prog w.drew = .ok (goInt (Nat.min (n + 1 - i) (n - i))) (w.drew.setCells g ((i + 1) * 2) (xs.drop i).flatten) := fun ty dc sc =>
      copy_runs w.drew _ _ ty 86 2 g ((i + 1) * 2) (n - i) dc ⟨g, i * 2, none⟩ (n + 1 - i) sc 86 cur _ hu48 sizeR hg (by rw [hdl]; congr 1; simp only [Nat.min_def]; split <;> omega) (hsrcd w.drew rfl) (by rw [hdl, hcl]; omega) hd1
    have H3 := St.sets (xs.drop i).flatten cur ((i + 1) * 2) _ (H2.mv 1).drew
    obtain ⟨W1, hW1⟩ : ∃ W1, W1 = w.drew.setCells g ((i + 1) * 2) (xs.drop i).flatten := ⟨_, rfl⟩
    rw [← hW1] at hcp1 H3
    have hgv1 : W1.heap[gv]? = w.heap[gv]? := (H3.mv 1).blk.trans hgv.symm
    have hcp2 : ∀ ty dc, (Builtin.copy_ #[74, 74] ty #[.slice (some ⟨g, i * 2, none⟩) (n + 1 - i) dc, .slice (some ⟨gv, 0, none⟩) 1 cv]).run Try.prog W1 = .ok (goInt (Nat.min 1 (n + 1 - i))) (W1.setCells g (i * 2) y) := fun ty dc =>
      copy_runs W1 _ _ ty 86 2 g (i * 2) (n + 1 - i) dc ⟨gv, 0, none⟩ 1 cv 86 _ _ hu48 sizeR H3.blk (by rw [hyl]; simp only [Nat.min_def]; split <;> omega) (hsrcv W1 hgv1) (by rw [splice_length, hyl, hcl]; omega) hy.2
    have H4 := St.sets y _ (i * 2) _ H3
    have hfin := (ins_cells hxs hy i (by omega) cur (by rw [hcl, hn]; omega) (by rw [← flatten_take hxs, ← hct, List.take_take, Nat.min_eq_left (by omega)])).1
    rw [hn] at hfin
    have H5 := raw_shut (xs := xs.take i ++ y :: xs.drop i) (k := n + 1) (cap := c) H4 (by simp; omega) hroom hc63 (by rw [splice_length, splice_length]; exact hcl) hfin (fun x hx => by
      rcases List.mem_append.1 hx with hx | hx
      · exact hxs x (List.mem_of_mem_take hx)
      · rcases List.mem_cons.1 hx with rfl | hx
        · exact hy
        · exact hxs x (List.mem_of_mem_drop hx))
    have HX := Aside0.mk H5
    have HC1 := Aside0.mk hcp1
    have HC2 := Aside0.mk hcp2
    clear hcp1 hcp2 hw3 htn2
    clear H5 H4 H3 H2 hfin hsrcd hsrcv hd1 hxs hys hcvt hct hg hgv hgv1 hW1 hdl hxf hyl hct0 hcl hcvl
    go_enter Try.func85, Try.ntmps85
    go_wp2_with (simp only [hov])
    refine start_ (n := 9) (S := fun w' => True) (ds := []) #[false, false, false, false, false, false, false, false, false] (by kernel_rfl) rfl rfl (trivial) (fun hHeld => ?_)
    refine pure_ (i := 0) (N := some 69) (v := ?_) (a' := ?_) #[true, false, false, false, false, false, false, false, false] rfl rfl (by kernel_rfl) (fun _ _ _ h => h) (Or.inl ⟨by rfl, ?_⟩) ?_ ?_
    rotate_left
    · intro w'
      go_simp
      with_reducible rfl
    rotate_left
    · simp only [Act.put, List.setIfInBounds_toArray, List.set_cons_zero, List.set_cons_succ, i64_w, i32_w]
      rfl
    refine pure_ (i := 1) (N := some 70) (v := ?_) (a' := ?_) #[true, true, false, false, false, false, false, false, false] rfl rfl (by kernel_rfl) (fun _ _ _ h => h) (Or.inl ⟨by rfl, ?_⟩) ?_ ?_
    rotate_left
    · intro w'
      go_simp
      with_reducible rfl
    rotate_left
    · simp only [Act.put, List.setIfInBounds_toArray, List.set_cons_zero, List.set_cons_succ, i64_w, i32_w]
      rfl
    refine pure_ (i := 2) (N := some 71) (v := ?_) (a' := ?_) #[true, true, true, false, false, false, false, false, false] rfl rfl (by kernel_rfl) (fun _ _ _ h => h) (Or.inl ⟨by rfl, ?_⟩) ?_ ?_
    rotate_left
    · intro w'
      go_simp
      with_reducible rfl
    rotate_left
    · simp only [Act.put, List.setIfInBounds_toArray, List.set_cons_zero, List.set_cons_succ, i64_w, i32_w]
      rfl
    refine pure_ (i := 3) (N := some 72) (v := ?_) (a' := ?_) #[true, true, true, true, false, false, false, false, false] rfl rfl (by kernel_rfl) (fun _ _ _ h => h) (Or.inl ⟨by rfl, ?_⟩) ?_ ?_
    rotate_left
    · intro w'
      go_simp
      with_reducible rfl
    rotate_left
    · simp only [Act.put, List.setIfInBounds_toArray, List.set_cons_zero, List.set_cons_succ, i64_w, i32_w]
      rfl
    refine pure_ (i := 4) (N := some 73) (v := ?_) (a' := ?_) #[true, true, true, true, true, false, false, false, false] rfl rfl (by kernel_rfl) (fun _ _ _ h => h) (Or.inl ⟨by rfl, ?_⟩) ?_ ?_
    rotate_left
    · intro w'
      go_simp
      with_reducible rfl
    rotate_left
    · simp only [Act.put, List.setIfInBounds_toArray, List.set_cons_zero, List.set_cons_succ, i64_w, i32_w]
      rfl
    refine pure_ (i := 5) (N := some 74) (v := ?_) (a' := ?_) #[true, true, true, true, true, true, false, false, false] rfl rfl (by kernel_rfl) (fun _ _ _ h => h) (Or.inl ⟨by rfl, ?_⟩) ?_ ?_
    rotate_left
    · intro w'
      go_simp
      with_reducible rfl
    rotate_left
    · simp only [Act.put, List.setIfInBounds_toArray, List.set_cons_zero, List.set_cons_succ, i64_w, i32_w]
      rfl
    refine pure_ (i := 6) (N := some 75) (v := ?_) (a' := ?_) #[true, true, true, true, true, true, true, false, false] rfl rfl (by kernel_rfl) (fun _ _ _ h => h) (Or.inl ⟨by rfl, ?_⟩) ?_ ?_
    rotate_left
    · intro w'
      go_simp
      with_reducible rfl
    rotate_left
    · simp only [Act.put, List.setIfInBounds_toArray, List.set_cons_zero, List.set_cons_succ, i64_w, i32_w]
      rfl
    refine pure_ (i := 7) (N := some 76) (v := ?_) (a' := ?_) #[true, true, true, true, true, true, true, true, false] rfl rfl (by kernel_rfl) (fun _ _ _ h => h) (Or.inl ⟨by rfl, ?_⟩) ?_ ?_
    rotate_left
    · intro w'
      go_simp
      with_reducible rfl
    rotate_left
    · simp only [Act.put, List.setIfInBounds_toArray, List.set_cons_zero, List.set_cons_succ, i64_w, i32_w]
      rfl
    refine one_ (i := 8) (N := some 77) #[true, true, true, true, true, true, true, true, true] rfl rfl (by kernel_rfl) (by decide) (fun K hK => ?_)
    refine value_ (w1 := W1) (v := goInt (Nat.min (n + 1 - i) (n - i))) (by rfl) rfl ?hrun ?_
    case hrun => first | (go_simp; done) | (go_simp; exact HC1.out _ _ _) | (go_simp; rw [HC1.out]; rfl)
    refine hK.out _ _ (trivial) (fun hHeld => ?_)
    clear hK K
    refine norm_ (a' := ?_) ?_ ?_
    rotate_left
    · show Act.put _ (some 77) _ = _
      simp only [Act.put, List.setIfInBounds_toArray, List.set_cons_zero, List.set_cons_succ, i64_w, i32_w]
      rfl
    refine done_ (by kernel_rfl) ?_
    clear hHeld
    have hcp2 := HC2.out
    go_wp2
    go_ret
    exact ⟨_, rfl, HX.out.out 1⟩
  · have hr : decide ((n : Int) + 1 > (c : Int)) = true := decide_eq_true (by omega)
    obtain ⟨i0, hi0, hz0, hzs, hzb⟩ := info_parts infoR
    have hold : (Builtin.firstCells i0.size i (.slice (some ⟨g, 0, none⟩) i c)).run Try.prog w.drew = .ok (xs.take i).flatten.toArray w.drew := by
      rw [hzs]
      exact run_firstCells_some w.drew 2 i ⟨g, 0, none⟩ i c _ (by rw [← flatten_take hxs, List.length_take, hxf]; omega) (fun j v hj => by
        rw [Addr.add_lit]
        rw [← flatten_take hxs, List.getElem?_take] at hj
        split at hj
        · have h1 : cur[j]? = some v := by rw [← hct, List.getElem?_take_of_lt (by omega)] at hj; exact hj
          have hgd : w.drew.heap[g]? = w.heap[g]? := rfl
          simp [World.cell?, hgd, hg, h1]
        · cases hj)
    obtain ⟨G, hG⟩ : ∃ G, G = grownCap w (n + 1) c 86 := ⟨_, rfl⟩
    obtain ⟨ROW, hROW⟩ : ∃ ROW : Array Value, ROW = (xs.take i).flatten.toArray ++ Builtin.zeroCells (Value.agg #[.string ⟨#[]⟩, .slice none 0 0]).cells (n + 1 - i) ++ Builtin.zeroCells (Value.agg #[.string ⟨#[]⟩, .slice none 0 0]).cells (G - (n + 1)) := ⟨_, rfl⟩
    have hik : i + (n + 1 - i) = n + 1 := by omega
    have hrz : ∀ ty, (Builtin.append_ #[74, 3] ty #[.slice (some ⟨g, 0, none⟩) i c, .int .i64 ((n + 1 - i : Nat) : Int)]).run Try.prog w =
        .ok (.slice (some ⟨w.heap.size, 0, none⟩) (n + 1) G) (w.drew.alloc (.cells ROW 86)) := fun ty => by
      have h := Lib.run_append_grow_zeros w 74 3 ty 86 i0 _ .i64 .i64 Try.underlying74 Try.underlying3 hi0 hz0 (some ⟨g, 0, none⟩) i c _ hold (n + 1 - i) (by omega) (by omega) (by omega) (by omega) (by rw [hzb]; omega) (by rw [hzb, hik]; exact growslice_fits (by omega) hbig)
      rw [hik, ← hG, ← hROW] at h
      exact h
    have hGn : n + 1 ≤ G := by rw [hG]; exact grownCap_ge w _ _ _
    have hG63 : G ≤ 9223372036854775807 := by
      have := grownCap_le_maxLen w (n + 1) c 86 (by unfold maxLen; omega)
      rw [← hG] at this
      unfold maxLen at this
      omega
    have hRsz : ROW.size = G * 2 := by
      have e1 : (xs.take i).flatten.length = i * 2 := by rw [← flatten_take hxs, List.length_take, hxf]; omega
      rw [hROW]
      simp [Builtin.zeroCells, Value.cells, e1]
      omega
    have hRt : ROW.toList.take (i * 2) = (xs.take i).flatten := by
      have e1 : (xs.take i).flatten.length = i * 2 := by rw [← flatten_take hxs, List.length_take, hxf]; omega
      rw [hROW, Array.toList_append, Array.toList_append, List.append_assoc, List.take_append_of_le_length (by simp [e1]), List.take_of_length_le (by simp [e1])]
    have H3 : St w S (w.drew.alloc (.cells ROW 86)) (HP.obj w.heap.size 86 ROW.toList :: _) := (H2.mv 1).drew.alloc (.cells ROW 86)
    obtain ⟨W1, hW1⟩ : ∃ W1, W1 = w.drew.alloc (.cells ROW 86) := ⟨_, rfl⟩
    rw [← hW1] at hrz H3
    obtain ⟨N, hN⟩ : ∃ N, N = w.heap.size := ⟨_, rfl⟩
    rw [← hN] at hrz H3
    have hg1 : W1.heap[g]? = w.heap[g]? := (H3.mv 1).blk.trans hg.symm
    have hgv1 : W1.heap[gv]? = w.heap[gv]? := (H3.mv 2).blk.trans hgv.symm
    have hcpA : ∀ ty dc, (Builtin.copy_ #[74, 74] ty #[.slice (some ⟨N, i * 2, none⟩) (n + 1 - i) dc, .slice (some ⟨gv, 0, none⟩) 1 cv]).run Try.prog W1 = .ok (goInt (Nat.min 1 (n + 1 - i))) (W1.setCells N (i * 2) y) := fun ty dc =>
      copy_runs W1 _ _ ty 86 2 N (i * 2) (n + 1 - i) dc ⟨gv, 0, none⟩ 1 cv 86 _ _ hu48 sizeR H3.blk (by rw [hyl]; simp only [Nat.min_def]; split <;> omega) (hsrcv W1 hgv1) (by rw [hyl]; simp [hRsz]; omega) hy.2
    have H4 := St.sets y _ (i * 2) _ H3
    obtain ⟨W2, hW2⟩ : ∃ W2, W2 = W1.setCells N (i * 2) y := ⟨_, rfl⟩
    rw [← hW2] at hcpA H4
    have hg2 : W2.drew.heap[g]? = w.heap[g]? := (H4.mv 1).blk.trans hg.symm
    have hcpB : ∀ ty dc sc, (Builtin.copy_ #[74, 74] ty #[.slice (some ⟨N, (i + 1) * 2, none⟩) (n - i) dc, .slice (some ⟨g, i * 2, none⟩) (n - i) sc]).run Try.prog W2.drew = .ok (goInt (Nat.min (n - i) (n - i))) (W2.drew.setCells N ((i + 1) * 2) (xs.drop i).flatten) := fun ty dc sc =>
      copy_runs W2.drew _ _ ty 86 2 N ((i + 1) * 2) (n - i) dc ⟨g, i * 2, none⟩ (n - i) sc 86 _ _ hu48 sizeR H4.drew.blk (by rw [hdl]; congr 1; simp only [Nat.min_def]; split <;> omega) (hsrcd W2.drew hg2) (by rw [hdl, splice_length]; simp [hRsz]; omega) hd1
    have H5 := St.sets (xs.drop i).flatten _ ((i + 1) * 2) _ H4.drew
    obtain ⟨W3, hW3⟩ : ∃ W3, W3 = W2.drew.setCells N ((i + 1) * 2) (xs.drop i).flatten := ⟨_, rfl⟩
    rw [← hW3] at hcpB H5
    have hfin := (ins_cells hxs hy i (by omega) ROW.toList (by simp [hRsz, hn]; omega) hRt).2
    rw [hn] at hfin
    have H6 := raw_shut (xs := xs.take i ++ y :: xs.drop i) (k := n + 1) (cap := G) H5 (by simp; omega) hGn hG63 (by rw [splice_length, splice_length]; simpa using hRsz) hfin (fun x hx => by
      rcases List.mem_append.1 hx with hx | hx
      · exact hxs x (List.mem_of_mem_take hx)
      · rcases List.mem_cons.1 hx with rfl | hx
        · exact hy
        · exact hxs x (List.mem_of_mem_drop hx))
    have HX := Aside0.mk H6
    have HC := Aside0.mk hcpB
    have HRZ := Aside0.mk hrz
    have hGi : ¬ (G = i) := by omega
    have hGi1 : ¬ (G = i + 1) := by omega
    have mixed : Try.prog.follows Departure.mixedOrders = true := by kernel_rfl
    clear H6 H5 H4 H3 H2 hrz hcpB hfin hsrcd hsrcv hd1 hxs hys hcvt hct hg hgv hgv1 hg1 hg2 hW1 hW2 hW3 hN hROW hRsz hRt hG hdl hxf hyl hct0 hcl hcvl hold hi0 hz0 hzs hzb hik hw2 htn2
    go_enter Try.func85, Try.ntmps85
    go_wp2_with ((with_reducible refine gate_dst (N := 40) rfl ?_); at_builtin; refine Lib.wpList_append_run _ rfl _ _ _ _ rfl _ _ rfl rfl _ _ (HRZ.out _) ?_)
    refine start_ (n := 9) (S := fun w' => True) (ds := []) #[false, false, false, false, false, false, false, false, false] (by kernel_rfl) rfl rfl (trivial) (fun hHeld => ?_)
    refine pure_ (i := 0) (N := some 46) (v := ?_) (a' := ?_) #[true, false, false, false, false, false, false, false, false] rfl rfl (by kernel_rfl) (fun _ _ _ h => h) (Or.inl ⟨by rfl, ?_⟩) ?_ ?_
    rotate_left
    · intro w'
      go_simp
      with_reducible rfl
    rotate_left
    · simp only [Act.put, List.setIfInBounds_toArray, List.set_cons_zero, List.set_cons_succ, i64_w, i32_w]
      rfl
    refine pure_ (i := 1) (N := some 47) (v := ?_) (a' := ?_) #[true, true, false, false, false, false, false, false, false] rfl rfl (by kernel_rfl) (fun _ _ _ h => h) (Or.inl ⟨by rfl, ?_⟩) ?_ ?_
    rotate_left
    · intro w'
      go_simp
      with_reducible rfl
    rotate_left
    · simp only [Act.put, List.setIfInBounds_toArray, List.set_cons_zero, List.set_cons_succ, i64_w, i32_w]
      rfl
    refine pure_ (i := 2) (N := some 48) (v := ?_) (a' := ?_) #[true, true, true, false, false, false, false, false, false] rfl rfl (by kernel_rfl) (fun _ _ _ h => h) (Or.inl ⟨by rfl, ?_⟩) ?_ ?_
    rotate_left
    · intro w'
      go_simp
      with_reducible rfl
    rotate_left
    · simp only [Act.put, List.setIfInBounds_toArray, List.set_cons_zero, List.set_cons_succ, i64_w, i32_w]
      rfl
    refine pure_ (i := 3) (N := some 49) (v := ?_) (a' := ?_) #[true, true, true, true, false, false, false, false, false] rfl rfl (by kernel_rfl) (fun _ _ _ h => h) (Or.inl ⟨by rfl, ?_⟩) ?_ ?_
    rotate_left
    · intro w'
      go_simp
      with_reducible rfl
    rotate_left
    · simp only [Act.put, List.setIfInBounds_toArray, List.set_cons_zero, List.set_cons_succ, i64_w, i32_w]
      rfl
    refine pure_ (i := 4) (N := some 50) (v := ?_) (a' := ?_) #[true, true, true, true, true, false, false, false, false] rfl rfl (by kernel_rfl) (fun _ _ _ h => h) (Or.inl ⟨by rfl, ?_⟩) ?_ ?_
    rotate_left
    · intro w'
      go_simp
      with_reducible rfl
    rotate_left
    · simp only [Act.put, List.setIfInBounds_toArray, List.set_cons_zero, List.set_cons_succ, i64_w, i32_w]
      rfl
    refine pure_ (i := 5) (N := some 51) (v := ?_) (a' := ?_) #[true, true, true, true, true, true, false, false, false] rfl rfl (by kernel_rfl) (fun _ _ _ h => h) (Or.inl ⟨by rfl, ?_⟩) ?_ ?_
    rotate_left
    · intro w'
      go_simp
      with_reducible rfl
    rotate_left
    · simp only [Act.put, List.setIfInBounds_toArray, List.set_cons_zero, List.set_cons_succ, i64_w, i32_w]
      rfl
    refine pure_ (i := 6) (N := some 52) (v := ?_) (a' := ?_) #[true, true, true, true, true, true, true, false, false] rfl rfl (by kernel_rfl) (fun _ _ _ h => h) (Or.inl ⟨by rfl, ?_⟩) ?_ ?_
    rotate_left
    · intro w'
      go_simp
      with_reducible rfl
    rotate_left
    · simp only [Act.put, List.setIfInBounds_toArray, List.set_cons_zero, List.set_cons_succ, i64_w, i32_w]
      rfl
    refine pure_ (i := 7) (N := some 53) (v := ?_) (a' := ?_) #[true, true, true, true, true, true, true, true, false] rfl rfl (by kernel_rfl) (fun _ _ _ h => h) (Or.inl ⟨by rfl, ?_⟩) ?_ ?_
    rotate_left
    · intro w'
      go_simp
      with_reducible rfl
    rotate_left
    · simp only [Act.put, List.setIfInBounds_toArray, List.set_cons_zero, List.set_cons_succ, i64_w, i32_w]
      rfl
    refine one_ (i := 8) (N := some 54) #[true, true, true, true, true, true, true, true, true] rfl rfl (by kernel_rfl) (by decide) (fun K hK => ?_)
    refine value_ (w1 := W3) (v := goInt (Nat.min (n - i) (n - i))) (by rfl) rfl ?hrun ?_
    case hrun => first | (go_simp; done) | (go_simp; exact HC.out _ _ _) | (go_simp; rw [HC.out]; first | rfl | (simp; rfl) | (simp; done))
    refine hK.out _ _ (trivial) (fun hHeld => ?_)
    clear hK K
    refine norm_ (a' := ?_) ?_ ?_
    rotate_left
    · show Act.put _ (some 54) _ = _
      simp only [Act.put, List.setIfInBounds_toArray, List.set_cons_zero, List.set_cons_succ, i64_w, i32_w]
      rfl
    refine done_ (by kernel_rfl) ?_
    clear hHeld
    go_wp2
    go_ret
    exact ⟨_, rfl, (HX.out.out 1).out 1⟩
/-- slices.Insert(s, i, y). -/
theorem ins_fun (u v : Value) (xs : List (List Value)) (y : List Value) (i : Nat) (hi : i ≤ xs.length) (hbig : (xs.length + 1) * 40 ≤ 140737488355328) :
    Fun Try.prog 85 #[u, .int .i64 i, v] (fun _ => True) [HP.row kR 86 u xs, HP.row kR 86 v [y]] (fun r => [HP.row kR 86 r (xs.take i ++ y :: xs.drop i)]) := by
  intro w S hS hR
  obtain ⟨gv, cv, rfl⟩ := St.row_form ((St.start hS).mv 1) (by simp)
  by_cases hn : i = xs.length
  · subst hn
    have h := ins_end u xs y gv cv hbig w S hS hR
    rw [List.take_length, List.drop_length]
    exact h
  · obtain ⟨g, c, rfl⟩ := St.row_form (St.start hS) (by omega)
    obtain ⟨-, hc, -, -⟩ := St.raw_all (St.start hS)
    exact ins_mid g c xs y i gv cv (by omega) hc hbig w S hS hR
end Go.Proofs.Ytphenpncdhgdhaa.Ver
