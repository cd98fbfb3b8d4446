/- slices.Delete of one element of a row of written-out cells, walked. -/
import Derived.Test.YtphenpncdhgdhaaShD
import Derived.Test.YtphenpncdhgdhaaSlIns
import Derived.Deep.RegionLaw
import Derived.Lib.SliceRun
namespace Go.Proofs.Ytphenpncdhgdhaa.Shd
open Go.RowKit Go.Proofs.YtphenpncdhgdhaaW.PrintWords Go.Proofs.YtphenpncdhgdhaaW.PrintLast Go.Proofs.YtphenpncdhgdhaaW.PrintMore Go.Proofs.Ytphenpncdhgdhaa.Sl Go.Proofs.Ytphenpncdhgdhaa.Str Go.Proofs.Ytphenpncdhgdhaa.Ver
set_option linter.unusedVariables false
set_option linter.unusedSimpArgs false
theorem splice_take (seg cs : List Value) (j : Nat) (h : j + seg.length ≤ cs.length) : (splice cs j seg).take j = cs.take j := by
  rw [splice_eq seg cs j h, List.append_assoc, List.take_append_of_le_length (by rw [List.length_take]; omega), List.take_take, Nat.min_self]
/-- clear of a part of a block of the walk's own. -/
theorem clear_runs {P : Program} (W : World) (T ty elem : TypeId) (z : Value) (g j n cap : Nat) (t : TypeId) (cs zs : List Value) (hu : P.underlying T = some (.slice elem)) (hz : ∀ w, (zeroValue elem).run P w = .ok z w)
    (hzs : (Builtin.zeroCells z.cells n).toList = zs) (hn : 0 < n) (hg : W.heap[g]? = some (.cells cs.toArray t (0, 0))) (hfit : j + zs.length ≤ cs.length) (h1 : ∀ v ∈ zs, v.oneCell' = true) :
    (Builtin.clear_ #[T] ty #[.slice (some ⟨g, j, none⟩) n cap]).run P W = .ok (.tuple #[]) (W.setCells g j zs) := by
  have hc : ∀ k, k < zs.length → (W.cell? ⟨g, j + k, none⟩).isSome = true := fun k hk => by
    have : j + k < cs.length := by omega
    simp [World.cell?, hg, this]
  have hf : ∀ k, k < zs.length → W.frozen? ⟨g, j + k, none⟩ = false := fun k hk => by simp [World.frozen?, hg]
  have hst := run_storeCells_cells (P := P) g j zs 0 W (by simpa using hc) (by simpa using hf) h1
  cases n with
  | zero => omega
  | succ n =>
    unfold Builtin.clear_
    simp only [List.getElem?_toArray, List.getElem?_cons_zero, Sem.run_bind, run_underlying hu, Result.andThen_ok, hz, hzs]
    have hst' : (storeCells ⟨g, j, none⟩ zs).run P W = .ok () (W.setCells g j zs) := by simpa using hst
    rw [hst']
    rfl
set_option maxHeartbeats 4000000 in
set_option maxRecDepth 20000 in
theorem delete_fun (g cap i j : Nat) (xs : List (List Value)) (hj : j = i + 1) (hi : i < xs.length) :
    FunV Try.prog 58 #[.slice (some ⟨g, 0, none⟩) xs.length cap, .int .i64 (i : Int), .int .i64 (j : Int)] (fun _ => True) [HP.row (raw 7) 62 (.slice (some ⟨g, 0, none⟩) xs.length cap) xs]
      (.slice (some ⟨g, 0, none⟩) (xs.length - 1) cap) [HP.row (raw 7) 62 (.slice (some ⟨g, 0, none⟩) (xs.length - 1) cap) (xs.eraseIdx i)] := by
  intro w S hS hR
  have HS_ := St.start hS
  clear hS hR
  obtain ⟨cur, HS, -, hcap, hmax, hcl, htk, hce⟩ := raw_open HS_
  clear HS_
  have hu58 := Try.underlying58
  have hijn : j ≤ xs.length := by omega
  have hij : i ≤ j := by omega
  have hic : i ≤ cap := by omega
  have hjc : j ≤ cap := by omega
  have hne : ((i : Int) == (j : Int)) = false := beq_eq_false_iff_ne.2 (by omega)
  obtain ⟨n, hn⟩ : ∃ n, xs.length = n := ⟨_, rfl⟩
  have hcuts : cur.take (i * 7) = (xs.take i).flatten ∧ (cur.take (n * 7)).drop (j * 7) = (xs.drop j).flatten := by
    refine ⟨?_, by rw [← hn, htk, flatten_drop hce]⟩
    rw [← flatten_take hce, ← htk, List.take_take, Nat.min_eq_left (by omega)]
  obtain ⟨news, hnews⟩ : ∃ news, (xs.drop j).flatten = news := ⟨_, rfl⟩
  have hlen : news.length = (n - j) * 7 := by rw [← hnews, flatten_len (fun x hx => hce x (List.mem_of_mem_drop hx)), List.length_drop, hn]
  have h1 : ∀ u ∈ news, u.oneCell' = true := by
    intro u hu
    rw [← hnews] at hu
    obtain ⟨x, hx, hux⟩ := List.mem_flatten.1 hu
    exact (hce x (List.mem_of_mem_drop hx)).2 u hux
  have hget : ∀ k u, news[k]? = some u → cur[j * 7 + k]? = some u := by
    intro k u hk
    rw [← hnews, ← hcuts.2, List.getElem?_drop] at hk
    rw [List.getElem?_take] at hk
    split at hk
    · exact hk
    · cases hk
  obtain ⟨A, hA, hsrc⟩ : ∃ A : Addr, (if cap = j then (some ⟨g, 0, none⟩ : Option Addr) else some ⟨g, j * 7, none⟩) = some A ∧ Hid (∀ k u, news[k]? = some u → w.drew.cell? (A.add k) = some u) := by
    by_cases h : cap = j
    · refine ⟨⟨g, 0, none⟩, by simp [h], fun k u hu => ?_⟩
      have : news.length = 0 := by rw [hlen]; omega
      rw [List.length_eq_zero_iff.1 this] at hu
      simp at hu
    · refine ⟨⟨g, j * 7, none⟩, by simp [h], fun k u hu => ?_⟩
      rw [Addr.add_lit, HS.drew.cell]
      exact hget k u hu
  have hfit : i * 7 + news.length ≤ cur.length := by rw [hlen, hcl]; omega
  have s3 : Hid (∀ k, k < news.length → (w.drew.cell? ⟨g, 0 + i * 7 + k, none⟩).isSome = true ∧ w.drew.frozen? ⟨g, 0 + i * 7 + k, none⟩ = false) := fun k hk => by
    refine ⟨?_, HS.drew.unfrozen _⟩
    rw [HS.drew.cell, List.getElem?_eq_getElem (by omega)]
    rfl
  have H1 := St.sets news cur (0 + i * 7) _ HS.drew
  obtain ⟨W1, hW1⟩ : ∃ W1, w.drew.setCells g (0 + i * 7) news = W1 := ⟨_, rfl⟩
  rw [hW1] at H1
  obtain ⟨cur1, hcur1⟩ : ∃ c, splice cur (0 + i * 7) news = c := ⟨_, rfl⟩
  rw [hcur1] at H1
  have hcl1 : cur1.length = cap * 7 := by rw [← hcur1, splice_length, hcl]
  obtain ⟨i0, hi0, hz1⟩ : ∃ i0, Try.prog.info? 62 = some i0 ∧ i0.size = 7 := by
    have := Lp_info
    cases h : Try.prog.info? 62 with
    | none => rw [h] at this; cases this
    | some i0 =>
      rw [h] at this
      simp only [Option.map_some, Option.some.injEq, Prod.mk.injEq] at this
      exact ⟨i0, rfl, this.2.1⟩
  have hm1 : i + (n - j) = n - 1 := by omega
  have hn1 : n - (n - 1) = 1 := by omega
  obtain ⟨zs, hzs⟩ : ∃ zs, (Builtin.zeroCells (Value.agg #[.int .i64 0, .int .i64 0, .int .i64 0, .int .i64 0, .int .i64 0, .slice none 0 0, .slice none 0 0]).cells 1).toList = zs := ⟨_, rfl⟩
  have hz7 : zs = [.int .i64 0, .int .i64 0, .int .i64 0, .int .i64 0, .int .i64 0, .slice none 0 0, .slice none 0 0] := by rw [← hzs]; kernel_rfl
  have hzl : zs.length = 7 := by rw [hz7]; rfl
  have hfit1 : (n - 1) * 7 + zs.length ≤ cur1.length := by rw [hzl, hcl1]; omega
  have hcr : ∀ ty, (Builtin.clear_ #[58] ty #[.slice (some ⟨g, (n - 1) * 7, none⟩) 1 (cap - (n - 1))]).run Try.prog W1 = .ok (.tuple #[]) (W1.setCells g ((n - 1) * 7) zs) := fun ty =>
    clear_runs W1 58 ty 62 _ g ((n - 1) * 7) 1 _ 62 cur1 zs hu58 (fun w => by kernel_rfl) hzs (by decide) H1.blk hfit1 (by rw [hz7]; decide)
  have H2 := St.sets zs cur1 ((n - 1) * 7) _ H1
  have hfin : (splice cur1 ((n - 1) * 7) zs).take ((n - 1) * 7) = (xs.eraseIdx i).flatten := by
    rw [splice_take _ _ _ hfit1, ← hcur1, Nat.zero_add, splice_eq _ _ _ hfit, hcuts.1, ← hnews, List.eraseIdx_eq_take_drop_succ, ← hj, List.flatten_append]
    have hl1 : ((xs.take i).flatten ++ (xs.drop j).flatten).length = (n - 1) * 7 := by
      rw [List.length_append, hnews, hlen, ← hcuts.1, List.length_take]
      omega
    rw [← hl1, List.take_append_of_le_length (Nat.le_refl _), List.take_length]
  have hlc : (splice cur1 ((n - 1) * 7) zs).length = cap * 7 := by rw [splice_length, hcl1]
  have hel : (xs.eraseIdx i).length = n - 1 := by rw [List.length_eraseIdx, if_pos hi, hn]
  have HE := Aside0.mk (show St w S (W1.setCells g ((n - 1) * 7) zs) [HP.row (raw 7) 62 (.slice (some ⟨g, 0, none⟩) (n - 1) cap) (xs.eraseIdx i)] from
    raw_shut H2 hel.symm (by omega) hmax hlc hfin (fun x hx => hce x (List.mem_of_mem_eraseIdx hx)))
  have hnI : (j : Int) ≤ (n : Int) := by omega
  have hW : Hid (w.drew.setCells g (0 + i * 7) news = W1) := hW1
  have hncap : n ≤ cap := by omega
  have hjn : j ≤ n := by omega
  have s1 : Hid (news.length = (n - j) * 7) := hlen
  have s2 : Hid (∀ u ∈ news, u.oneCell' = true) := h1
  have hinj : i + (n - j) ≤ cap := by omega
  have hinn : i + (n - j) ≤ n := by omega
  rw [hn]
  clear hfin hlc hel H2 H1 hfit1 hzl hz7 hzs hfit hget h1 hlen hnews hcuts hcur1 hcl1 hcl htk hce HS hW1 hijn hn hcap hj hi
  have hmx : Try.prog.follows Departure.mixedOrders = true := by kernel_rfl
  go_enter Try.func58, Try.ntmps58
  go_wp2_with fail
  go_region_law_o (refine step_append_room rfl (.tmp 22) (.tmp 25) 58 rfl 62 i0 7 hu58 hi0 hz1 g 0 i cap (by simp [Act.eval, Act.put]) A (n - j) (cap - j) news (by simp [Act.eval, Act.put]) s1.out hsrc.out s2.out (by omega) s3.out ?_; rw [hW.out])
  go_wp2
  go_ret
  exact ⟨rfl, HE.out⟩
end Go.Proofs.Ytphenpncdhgdhaa.Shd
