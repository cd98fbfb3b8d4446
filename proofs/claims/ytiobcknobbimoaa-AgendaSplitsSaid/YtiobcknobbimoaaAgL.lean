/- The laws' set: walked. -/
import Derived.Test.YtiobcknobbimoaaAgZ
import Derived.WideLaws
namespace Go.Proofs.Ytiobcknobbimoaa.Ag
open Go.RowKit Go.Proofs.YtiobcknobbimoaaW.PrintWords Go.Proofs.YtiobcknobbimoaaW.PrintLast Go.Proofs.YtiobcknobbimoaaW.PrintMore Go.Proofs.Ytiobcknobbimoaa.Sl Go.Proofs.Ytiobcknobbimoaa.Row
set_option linter.unusedVariables false
set_option linter.unusedSimpArgs false
def Uniq (L : List Th) : Prop := L.Pairwise (fun x y => x.what ≠ y.what)
theorem agS_uniq {w0 w : World} {S0 : Nat → Prop} {F : List HP} {ga tn : Nat} {L : List Th} (h : St w0 S0 w (agS ga L tn :: F)) : Uniq L := by
  obtain ⟨v, q, m, mb, L', ha, _⟩ := agS_open h
  rw [← ha.eq]
  exact List.pairwise_map.2 ha.ne
theorem nextL_some : ∀ {L : List Th} {t : Th}, nextL L = some t → t ∈ L ∧ ∀ u ∈ L, t.due ≤ u.due
  | [], t, h => by simp [nextL] at h
  | x :: L, t, h => by
    unfold nextL at h
    cases hn : nextL L with
    | none =>
      rw [hn] at h
      obtain rfl : x = t := by simpa using h
      have := nextL_none hn
      subst this
      exact ⟨by simp, fun u hu => by rw [List.mem_singleton.1 hu]; exact Int.le_refl _⟩
    | some y =>
      rw [hn] at h
      obtain ⟨h1, h2⟩ := nextL_some hn
      by_cases hc : y.due < x.due
      · simp [hc] at h
        subst h
        exact ⟨by simp [h1], fun u hu => by
          rcases List.mem_cons.1 hu with rfl | hu
          · omega
          · exact h2 u hu⟩
      · simp [hc] at h
        subst h
        exact ⟨by simp, fun u hu => by
          rcases List.mem_cons.1 hu with rfl | hu
          · exact Int.le_refl _
          · have := h2 u hu; omega⟩
theorem drop_len {L : List Th} (hu : Uniq L) {t : Th} (ht : t ∈ L) : (dropL L t.what).length + 1 = L.length := by
  induction L with
  | nil => simp at ht
  | cons x L ih =>
    obtain ⟨h1, h2⟩ := List.pairwise_cons.1 hu
    rcases List.mem_cons.1 ht with rfl | ht
    · have : dropL (t :: L) t.what = L := by
        unfold dropL
        rw [List.filter_cons_of_neg (by simp)]
        exact List.filter_eq_self.2 (fun y hy => by simpa using fun e => h1 y hy e.symm)
      rw [this]
      simp
    · have hx : x.what ≠ t.what := h1 t ht
      have : dropL (x :: L) t.what = x :: dropL L t.what := by
        unfold dropL
        rw [List.filter_cons_of_pos (by simpa using hx)]
      rw [this, List.length_cons, List.length_cons]
      have := ih h2 ht
      omega
theorem mem_drop {L : List Th} {k : Int} {t : Th} : t ∈ dropL L k ↔ t ∈ L ∧ t.what ≠ k := by
  unfold dropL
  rw [List.mem_filter]
  simp
theorem mget_keys (m : List (Int × Bool)) (k : Int) : (mget m k).isSome = true ↔ k ∈ m.map (·.1) := by
  unfold mget
  rw [Option.isSome_map, List.find?_isSome]
  simp
structure KeysOk (m : List (Int × Bool)) (L : List Th) : Prop where
  len : m.length = L.length
  keys : ∀ k, k ∈ m.map (·.1) ↔ ∃ t ∈ L, t.what = k
theorem keys_nil : KeysOk [] [] := ⟨rfl, fun k => by simp⟩
theorem keys_set {m : List (Int × Bool)} {L : List Th} (hu : Uniq L) (h : KeysOk m L) (k due : Int) : KeysOk (mput m k true) (setL L k due) := by
  have hmem : ∀ k', (∃ t ∈ setL L k due, t.what = k') ↔ (k' = k ∨ ∃ t ∈ L, t.what = k') := fun k' => by
    constructor
    · rintro ⟨t, ht, rfl⟩
      rcases List.mem_append.1 ht with ht | ht
      · exact .inr ⟨t, (mem_drop.1 ht).1, rfl⟩
      · rw [List.mem_singleton.1 ht]; exact .inl rfl
    · rintro (rfl | ⟨t, ht, rfl⟩)
      · exact ⟨⟨k', due⟩, List.mem_append.2 (.inr (List.mem_singleton.2 rfl)), rfl⟩
      · by_cases e : t.what = k
        · exact ⟨⟨k, due⟩, List.mem_append.2 (.inr (List.mem_singleton.2 rfl)), e.symm⟩
        · exact ⟨t, List.mem_append.2 (.inl (mem_drop.2 ⟨ht, e⟩)), rfl⟩
  by_cases hs : (mget m k).isSome = true
  · have hp : mput m k true = m.map (fun p => if p.1 = k then (k, true) else p) := by unfold mput; rw [if_pos hs]
    have hk : (m.map (fun p => if p.1 = k then (k, true) else p)).map (·.1) = m.map (·.1) := by
      rw [List.map_map]
      refine List.map_congr_left (fun p _ => ?_)
      by_cases e : p.1 = k
      · simp [e]
      · simp [e]
    obtain ⟨t, ht, e⟩ := (h.keys k).1 ((mget_keys m k).1 hs)
    have hd := drop_len hu ht
    rw [e] at hd
    refine ⟨?_, fun k' => ?_⟩
    · rw [hp, List.length_map, setL, List.length_append, List.length_singleton, hd, h.len]
    · rw [hp, hk, hmem, h.keys]
      constructor
      · exact .inr
      · rintro (rfl | h')
        · exact ⟨t, ht, e⟩
        · exact h'
  · have hn : mget m k = none := by cases hm : mget m k with | none => rfl | some v => rw [hm] at hs; simp at hs
    have hnk : ∀ t ∈ L, t.what ≠ k := fun t ht e => hs ((mget_keys m k).2 ((h.keys k).2 ⟨t, ht, e⟩))
    rw [mput_new k true hn]
    refine ⟨?_, fun k' => ?_⟩
    · rw [setL, dropL_none hnk, List.length_append, List.length_append, h.len]
      rfl
    · rw [List.map_append, List.mem_append, hmem, h.keys]
      simp
      constructor
      · rintro (h' | rfl)
        · exact .inr h'
        · exact .inl rfl
      · rintro (rfl | h')
        · exact .inr rfl
        · exact .inl h'
def setsL (l : List OpA) : List Th := l.foldl (fun L x => setL L x.what x.due) []
theorem setsL_take (l : List OpA) (j : Nat) (hj : j < l.length) : setsL (l.take (j + 1)) = setL (setsL (l.take j)) l[j].what l[j].due := by
  unfold setsL
  rw [List.take_succ_eq_append_getElem hj, List.foldl_append]
  rfl
def MB (mb : Nat) (m : List (Int × Bool)) : HP := Sl.map mb (.int .i64) (fun k : Int => Value.int .i64 k) Value.bool m
set_option maxHeartbeats 8000000 in
set_option maxRecDepth 20000 in
theorem set_fun (A1 : Option Addr) (c1 : Nat) (l : List OpA) (hc1 : l.length ≤ c1) (hl : l.length ≤ 400) :
    Fun Try.prog 12 #[.slice A1 l.length c1] (fun w => Kd.C kOpA w A1 l.length l) [] (fun r => [HP.ex fun ga : Nat => HP.and (r = .tuple #[.pointer (some ⟨ga, 0, none⟩), .int .i64 ((setsL l).length : Int)]) (agS ga (setsL l) l.length)]) := by
  intro w S hS_ hR
  have HS := St.start hS_
  have HR := Aside0.mk hR
  clear hS_ hR
  have hu31 := Try.underlying31
  have hu22 := Try.underlying22
  have hu36 := Try.underlying36
  go_enter Try.func12, Try.ntmps12
  go_wp2_with fail
  refine (newS.call (F := []) HS (fun _ _ _ _ => trivial)).mono ?_
  rintro e_ w3 ⟨r_, rfl, HS_⟩
  clear HS
  obtain ⟨ga, HS2⟩ := St.ex_ HS_
  obtain ⟨hr_, HS3⟩ := St.and_ HS2
  subst hr_
  have HS : St w S w3 [agS ga [] 0] := HS3
  clear HS_ HS2 HS3
  have H1 := HS.map_made (.int .i64) (fun k : Int => Value.int .i64 k) Value.bool intKey intInj
  have hmm := @run_makeMap Try.prog
  clear HS
  go_wp2_with fail
  clear hmm
  have HS : St w S (w3.alloc (.map #[] 0)) [MB w3.heap.size [], agS ga (setsL (l.take 0)) 0] := H1
  clear H1
  generalize w3.alloc (.map #[] 0) = w4 at HS ⊢
  generalize w3.heap.size = mb at HS ⊢
  go_loopw [12] (fun v12 w' => ∃ (j : Nat) (m : List (Int × Bool)), j ≤ l.length ∧ v12 = .int .i64 j ∧ Aside0 (KeysOk m (setsL (l.take j))) ∧ St w S w' [MB mb m, agS ga (setsL (l.take j)) j]) (fun v12 _ => l.length - (intOf v12).toNat)
  case atStart => exact ⟨0, [], Nat.zero_le _, rfl, ⟨keys_nil⟩, HS⟩
  case round =>
    clear HS
    obtain ⟨j, m, hj, rfl, HK, HS⟩ := hrel
    by_cases hlt : j < l.length
    · have hltI : (j : Int) < (l.length : Int) := by omega
      have hj0 : (0 : Int) ≤ (j : Int) := by omega
      have hjd : decide ((j : Int) < (l.length : Int)) = true := decide_eq_true hltI
      obtain ⟨ad, rfl, i0, i1, i2⟩ := at_OpA (HR.out wr HS.ext) j hlt
      have hnx := setsL_take l j hlt
      have HUQ := Aside0.mk (agS_uniq (HS.mv 1))
      obtain ⟨x, hx⟩ : ∃ x, l[j] = x := ⟨_, rfl⟩
      rw [hx] at i0 i1 i2 hnx
      have HNX := Aside0.mk hnx
      clear hx hnx
      generalize setsL (l.take j) = L at HS HK HNX HUQ
      go_wp2_with (first
        | ((with_reducible refine gate_dst (N := 7) rfl ?_); refine ev_box ?hg (N := 7) ?hd (cs := [.int .i64 0, .int .i64 0, .int .i64 0]) (t := 31) HS ?hr ?_; (case hd => rfl); (case hg => rfl); (case hr => first | (go_simp; done) | (go_simp; rfl)); intro ob w5 HS_ hg_ob; clear HS; have HS := HS_; clear HS_; clear i0 i1 i2)
        | ((with_reducible refine gate_ (.store 31 (.tmp 7) (.tmp 15)) rfl ?_); refine ev_store rfl rfl 31 (.tmp 7) (.tmp 15) rfl HS rfl rfl (seg := [.int .i64 x.kind, .int .i64 x.what, .int .i64 x.due]) rfl ?ht rfl ?hf ?_; (case ht => kernel_rfl); (case hf => first | (simp; done) | (simp [splice]; done)); intro w6 HS_; clear HS; have HS : St w S w6 [HP.obj ob 31 [.int .i64 x.kind, .int .i64 x.what, .int .i64 x.due], MB mb m, agS ga L j] := HS_; clear HS_; have q1 : w6.cell? ⟨ob, 1, none⟩ = some (.int .i64 x.what) := HS.cell 1; have q2 : w6.cell? ⟨ob, 2, none⟩ = some (.int .i64 x.due) := HS.cell 2))
      refine ((set_ag ga L j x.what x.due (by omega)).call (F := [HP.obj ob 31 [.int .i64 x.kind, .int .i64 x.what, .int .i64 x.due], MB mb m]) (HS.mv 2) (fun _ _ _ _ => trivial)).mono ?_
      rintro e_ w7 ⟨rfl, HS_⟩
      clear HS q1 q2
      have HS : St w S w7 [agS ga (setL L x.what x.due) (j + 1), HP.obj ob 31 [.int .i64 x.kind, .int .i64 x.what, .int .i64 x.due], MB mb m] := HS_
      clear HS_
      have q1 : w7.cell? ⟨ob, 1, none⟩ = some (.int .i64 x.what) := (HS.mv 1).cell 1
      obtain ⟨w8, hmu, H8⟩ := St.map_store (P := Try.prog) (t := 36) (kt := 3) (HS.mv 2) Try.underlying36 Try.underlying3 x.what true
      have HK2 := Aside0.mk (keys_set HUQ.out HK.out x.what x.due)
      clear HS
      have H9 : Aside0 (St w S w8 [MB mb (mput m x.what true), agS ga (setL L x.what x.due) (j + 1)]) := ⟨H8.out 2⟩
      clear H8
      go_wp2
      go_roundw
      case rel => exact ⟨j + 1, mput m x.what true, by omega, by go_num, by rw [HNX.out]; exact HK2, by rw [HNX.out]; exact H9.out⟩
      case measure => simp [intOf]; omega
    · obtain rfl : j = l.length := by omega
      have hjd : decide ((l.length : Int) < (l.length : Int)) = false := decide_eq_false (by omega)
      rw [List.take_length] at HS HK
      obtain ⟨es, clock, hbk, hes⟩ := St.map_size HS
      rw [HK.out.len] at hes
      have hlen : ∀ ty, (Builtin.len_ #[36] ty #[.map (some mb)]).run Try.prog wr = .ok (.int .i64 ((setsL l).length : Int)) wr := fun ty => by
        rw [run_len_map (P := Try.prog) (w := wr) 36 ty mb es clock (by kernel_rfl) hbk, hes]
        rfl
      clear hbk hes
      go_wp2
      go_ret2
      exact ⟨_, rfl, St.ex_in ga (St.and_in rfl (HS.out 0))⟩
end Go.Proofs.Ytiobcknobbimoaa.Ag
