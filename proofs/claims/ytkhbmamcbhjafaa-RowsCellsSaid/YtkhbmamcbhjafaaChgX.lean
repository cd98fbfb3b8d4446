/- rows.Changes, walked. -/
import Derived.Test.YtkhbmamcbhjafaaChgW
import Derived.Outline
import Derived.Deep.DeepCutAuto
namespace Go.Proofs.Ytkhbmamcbhjafaa.Keys
open Go.RowKit Go.Proofs.YtkhbmamcbhjafaaW.PrintWords Go.Proofs.YtkhbmamcbhjafaaW.PrintLast Go.Proofs.YtkhbmamcbhjafaaW.PrintMore Go.Proofs.Ytkhbmamcbhjafaa.Str Go.Proofs.Ytkhbmamcbhjafaa.PRef Go.Proofs.Ytkhbmamcbhjafaa.Stands Go.Proofs.Ytkhbmamcbhjafaa.Sl
set_option linter.unusedVariables false
set_option linter.unusedSimpArgs false
attribute [local go_sem high] eqA36
theorem v_beq (x y : V) : (x.f0 == y.f0 && (x.f1 == y.f1 && (x.f2.toList == y.f2.toList))) = decide (x = y) := by
  rw [Bool.eq_iff_iff]
  simp only [Bool.and_eq_true, beq_iff_eq, decide_eq_true_eq]
  exact ⟨fun h => v_ext _ _ h.1 h.2.1 (ext _ _ h.2.2), fun h => by rw [h]; exact ⟨rfl, rfl, rfl⟩⟩
theorem of_64 {l : List C} (h : C64 l) (id : Int) : In64 (ofC l id).f1 := by
  induction l with
  | nil => exact in64_small (n := 0) (by omega) (by omega)
  | cons c l ih =>
    simp only [ofC]
    by_cases hc : c.f0 = id
    · rw [if_pos hc]; exact (h c (by simp)).2
    · rw [if_neg hc]; exact ih (fun x hx => h x (by simp [hx]))
theorem chKey_64 {old new : List C} (ho : C64 old) (hn : C64 new) (id : Int) : In64 (chKey id old new).f1 := by
  unfold chKey
  split
  · exact of_64 ho id
  · exact of_64 hn id
theorem ch_len (old new : List C) (k : V) (idx : List Ix) (j : Nat) (l0 : Wr) (h : idx.length ≤ 100000) : ([l0] ++ ((idx.take j).map (chStep old new k)).flatten).length ≤ 900000 := by
  have h1 : ∀ l : List Ix, ((l.map (chStep old new k)).flatten).length ≤ 2 * l.length := by
    intro l
    induction l with
    | nil => simp
    | cons x l ih =>
      have : (chStep old new k x).length ≤ 2 := by
        unfold chStep
        rw [List.length_append]
        have a1 : ∀ (p : Prop) [Decidable p] (a : Wr), (if p then [a] else []).length ≤ 1 := fun p _ a => by split <;> simp
        have := a1 (0 < old.length ∧ (new.length = 0 ∨ ofC old x.f2 ≠ ofC new x.f2)) ⟨entryK x.f0 (ofC old x.f2) k, ⟨#[]⟩, true⟩
        have := a1 (0 < new.length ∧ (x.f4 = 2 ∨ x.f4 = 3)) ⟨entryK x.f0 (ofC new x.f2) k, ⟨#[]⟩, false⟩
        omega
      rw [List.map_cons, List.flatten_cons, List.length_append, List.length_cons]
      omega
  have := h1 (idx.take j)
  have h2 : (idx.take j).length ≤ idx.length := List.length_take_le' _ _
  rw [List.length_append, List.length_singleton]
  omega
/-- A cell of a flat row. -/
theorem flat_cell {α : Type} {d : Kd α} {enc : α → List Value} (hopen : ∀ {w : World} {x : α} {cs : List Value}, d.K w x cs → cs = enc x) {e : TypeId} {w0 w : World} {S0 : Nat → Prop} {F : List HP} {g n c : Nat} {xs : List α}
    (h : St w0 S0 w (HP.row d e (.slice (some ⟨g, 0, none⟩) n c) xs :: F)) (j : Nat) (hj : j < xs.length) (i : Nat) (hi : i < (enc xs[j]).length) : w.cell? ⟨g, j * d.sz + i, none⟩ = some ((enc xs[j])[i]) := by
  have hC := (St.row_reads h).2.2
  obtain ⟨ad, e1, hc⟩ := hC.2.2 (by omega)
  obtain rfl : ad = ⟨g, 0, none⟩ := (Option.some.inj e1).symm
  obtain ⟨cs, _, hK, hcell⟩ := hc j xs[j] (List.getElem?_eq_getElem hj)
  obtain rfl := hopen hK
  have := hcell i _ (List.getElem?_eq_getElem hi)
  rw [add_plain] at this
  exact this
theorem col_id {w0 w : World} {S0 : Nat → Prop} {F : List HP} {g n c : Nat} {xs : List Cl} (h : St w0 S0 w (HP.row kL 83 (.slice (some ⟨g, 0, none⟩) n c) xs :: F)) (hj : 0 < xs.length) : w.cell? ⟨g, 0, none⟩ = some (.int .i64 xs[0].f0) := by
  have := flat_cell (enc := fun x : Cl => [.int .i64 x.f0, .string x.f1, .int .i64 x.f2, .int .i64 x.f3, .int .i64 x.f4.f0, .int .i64 x.f4.f1, .string x.f4.f2]) k83_open h 0 hj 0 (by simp)
  simpa using this
theorem ix_cells {w0 w : World} {S0 : Nat → Prop} {F : List HP} {g n c : Nat} {xs : List Ix} (h : St w0 S0 w (HP.row kI 87 (.slice (some ⟨g, 0, none⟩) n c) xs :: F)) (j : Nat) (hj : j < xs.length) :
    w.cell? ⟨g, j * 5, none⟩ = some (.int .i64 xs[j].f0) ∧ w.cell? ⟨g, j * 5 + 1, none⟩ = some (.string xs[j].f1) ∧ w.cell? ⟨g, j * 5 + 2, none⟩ = some (.int .i64 xs[j].f2) ∧ w.cell? ⟨g, j * 5 + 3, none⟩ = some (.bool xs[j].f3) ∧ w.cell? ⟨g, j * 5 + 4, none⟩ = some (.int .i64 xs[j].f4) := by
  have hf := fun i hi => flat_cell (enc := fun x : Ix => [.int .i64 x.f0, .string x.f1, .int .i64 x.f2, .bool x.f3, .int .i64 x.f4]) k87_open h j hj i hi
  exact ⟨hf 0 (by simp), hf 1 (by simp), hf 2 (by simp), hf 3 (by simp), hf 4 (by simp)⟩
set_option maxHeartbeats 8000000 in
set_option maxRecDepth 20000 in
theorem changes_fun (tid : Int) (nm : ByteArray) (uc ui uk uo un : Value) (cols : List Cl) (idx : List Ix) (old new : List C) (ht64 : In64 tid) (hcol : 0 < cols.length) (hcl : cols.length ≤ 100000) (hil : idx.length ≤ 100000) (hol : old.length ≤ 100000) (hnl : new.length ≤ 100000)
    (hix : ∀ x ∈ idx, In64 x.f0) (h6o : C64 old) (h6n : C64 new) (cid : Int) (hcd : cols[0].f0 = cid) :
    Fun Try.prog 19 #[.agg #[.int .i64 tid, .string nm, uc, ui, uk], uo, un] (fun _ => True)
      [HP.row kL 83 uc cols, HP.row kI 87 ui idx, HP.row kC 73 uo old, HP.row kC 73 un new]
      (fun r => [HP.row kW 66 r (changes tid cid idx old new), HP.row kL 83 uc cols, HP.row kI 87 ui idx, HP.row kC 73 uo old, HP.row kC 73 un new]) := by
  intro w S hS hR
  have HS := St.start hS
  clear hS hR
  obtain ⟨gc, cc, ruc⟩ := St.row_form HS hcol
  subst ruc
  obtain ⟨Ai, ci, rui, hci, hCi⟩ := St.row_C (HS.mv 1)
  subst rui
  obtain ⟨Ao, co, ruo, hco, hCo⟩ := St.row_C (HS.mv 2)
  subst ruo
  obtain ⟨An, cn, run, hcn, hCn⟩ := St.row_C (HS.mv 3)
  subst run
  clear hCi hCo hCn
  subst hcd
  obtain ⟨cid, hcd⟩ : ∃ cid, cols[0].f0 = cid := ⟨_, rfl⟩
  have col_id : ∀ {wq : World} {F : List HP} {n c : Nat}, St w S wq (HP.row kL 83 (.slice (some ⟨gc, 0, none⟩) n c) cols :: F) → (hj : 0 < cols.length) → wq.cell? ⟨gc, 0, none⟩ = some (.int .i64 cid) := fun h hj => by rw [← hcd]; exact Keys.col_id h hj
  rw [hcd]
  have HCD := Aside0.mk hcd
  clear hcd
  have hc0 : ((cols.length : Int) == 0) = false := by rw [beq_eq_false_iff_ne]; omega
  have hmf : ∀ (fn : Fn) (first cap : Array Value) (w : World), (Instr.makeFunc fn first cap).run Try.prog w = .ok (.func fn first cap) w := fun _ _ _ _ => rfl
  have hu1 := Try.underlying36
  have hu2 := Try.underlying58
  have hu3 := Try.underlying87
  have hu4 := Try.underlying83
  have hu5 := Try.underlying54
  have hu6 := Try.underlying55
  have hu7 := Try.underlying24
  have hu8 := Try.underlying52
  by_cases hz : old.length + new.length = 0
  · have hz1 : ((old.length : Int) + (new.length : Int) == 0) = true := by rw [beq_iff_eq]; omega
    have hch : changes tid cid idx old new = [] := by unfold changes; rw [if_pos hz]
    go_enter Try.func19, Try.ntmps19
    go_wp2_with (first
      | ((with_reducible refine gate_dst (N := 3) rfl ?_); refine ev_box ?hg (N := 3) ?hd (cs := [.int .i64 tid, .string nm, .slice (some ⟨gc, 0, none⟩) cols.length cc, .slice Ai idx.length ci, uk]) (t := 58) HS ?hr ?_; (case hd => rfl); (case hg => rfl); (case hr => first | (go_simp; done) | (go_simp; rfl)); intro tb w1 HS_ hg_tb; clear HS; have HS := HS_; clear HS_; have q_tb_2 : w1.cell? ⟨tb, 2, none⟩ = some (.slice (some ⟨gc, 0, none⟩) cols.length cc) := HS.cell 2))
    go_ret
    refine ⟨_, rfl, ?_⟩
    try rw [hch]
    exact (HS.out 0).nil_ _ _
  · have hz1 : ((old.length : Int) + (new.length : Int) == 0) = false := by rw [beq_eq_false_iff_ne]; omega
    obtain ⟨p, f, hp, hpf⟩ := put_code new
    have hput := rows_put_eq new h6n (by omega) _ (Nat.le_refl _)
    rw [hp] at hput
    go_enter Try.func19, Try.ntmps19
    go_wp2_with (first
      | ((with_reducible refine gate_dst (N := 3) rfl ?_); refine ev_box ?hg (N := 3) ?hd (cs := [.int .i64 tid, .string nm, .slice (some ⟨gc, 0, none⟩) cols.length cc, .slice Ai idx.length ci, uk]) (t := 58) HS ?hr ?_; (case hd => rfl); (case hg => rfl); (case hr => first | (go_simp; done) | (go_simp; rfl)); intro tb w1 HS_ hg_tb; clear HS; have HS := HS_; clear HS_; have q_tb_2 : w1.cell? ⟨tb, 2, none⟩ = some (.slice (some ⟨gc, 0, none⟩) cols.length cc) := HS.cell 2))
    refine (rows_Put.calls _ An cn new p f w1 (St.row_reads (HS.mv 4)).2.2 hcn hput).mono ?_
    rintro x w2 ⟨rfl, hb⟩
    have HS_ := HS.later hb
    clear HS hb
    have HS := HS_
    clear HS_
    clear q_tb_2
    have q_tb_0 : w2.cell? ⟨tb, 0, none⟩ = some (.int .i64 tid) := HS.cell 0
    have q_tb_2 : w2.cell? ⟨tb, 2, none⟩ = some (.slice (some ⟨gc, 0, none⟩) cols.length cc) := HS.cell 2
    have q_tb_3 : w2.cell? ⟨tb, 3, none⟩ = some (.slice Ai idx.length ci) := HS.cell 3
    have hcid : w2.cell? ⟨gc, 0, none⟩ = some (.int .i64 cid) := col_id (HS.mv 1) hcol
    clear hput
    rcases hpf with rfl | rfl
    rotate_left
    · have hch : changes tid cid idx old new = [] := by unfold changes; rw [if_neg hz, if_pos (by rw [hp]; simp)]
      go_wp2
      go_ret
      refine ⟨_, rfl, ?_⟩
      try rw [hch]
      exact (HS.out 0).nil_ _ _
    have hch : changes tid cid idx old new = ⟨rowK tid (chKey cid old new), p, decide (new.length = 0)⟩ :: (idx.map (chStep old new (chKey cid old new))).flatten := by
      unfold changes
      rw [if_neg hz, if_neg (by rw [hp]; simp), hp]
    have HCH := Aside0.mk hch
    have hz' : 0 < old.length + new.length := by omega
    clear hch hp hz hz1
    obtain ⟨kv, hkv⟩ : ∃ kv, chKey cid old new = kv := ⟨_, rfl⟩
    have hk64 : In64 kv.f1 := by rw [← hkv]; exact chKey_64 h6o h6n cid
    rw [hkv] at HCH
    have hofn := of_eq new cid (by omega)
    have hofo := of_eq old cid (by omega)
    have HR : ∀ (wr : World) (u : Value), St w S wr [] → Calls Try.prog 35 #[.int .i64 tid, .agg #[.int .i64 kv.f0, .int .i64 kv.f1, .string kv.f2]] wr fun e w' => e = .returned (.string (rowK tid kv)) ∧ Below wr.heap.size wr w' := fun wr u _ => rows_Row.calls 300 tid kv.f0 kv.f1 kv.f2 _ wr (row_eq tid kv ht64 hk64)
    clear HR
    obtain ⟨vn, hvn⟩ : ∃ vn, ofC new cid = vn := ⟨_, rfl⟩
    obtain ⟨vo, hvo⟩ : ∃ vo, ofC old cid = vo := ⟨_, rfl⟩
    rw [hvn] at hofn
    rw [hvo] at hofo
    have hkv1 : 0 < old.length → vo = kv := fun h => by rw [← hkv]; unfold chKey; rw [if_pos h, hvo]
    have hkv0 : ¬ 0 < old.length → vn = kv := fun h => by rw [← hkv]; unfold chKey; rw [if_neg h, hvn]
    clear hkv hvn hvo
    go_wp2_with fail
    refine (rows_Of.calls (new.length + 1) An cn new cid _ _ _ w2 (St.row_reads (HS.mv 4)).2.2 hcn hofn).mono ?_
    rintro x w3 ⟨rfl, hb⟩
    have HS_ := HS.later hb
    clear HS hb
    have HS := HS_
    clear HS_
    clear hcid
    clear q_tb_0 q_tb_2 q_tb_3
    clear hofn
    go_upto_if 44 with (first
      | ((with_reducible refine gate_dst (N := 9) rfl ?_); refine ev_box ?hg (N := 9) ?hd (cs := [.int .i64 0, .int .i64 0, .string ⟨#[]⟩]) (t := 36) HS ?hr ?_; (case hd => rfl); (case hg => rfl); (case hr => first | (go_simp; done) | (go_simp; rfl)); intro kb w4 HS_ hg_kb; clear HS; have HS := HS_; clear HS_)
      | ((with_reducible refine gate_ (.store 36 (.tmp 9) (.tmp 41)) rfl ?_); refine ev_store rfl rfl 36 (.tmp 9) (.tmp 41) rfl HS rfl rfl (seg := [.int .i64 vn.f0, .int .i64 vn.f1, .string vn.f2]) rfl ?ht rfl ?hf ?_; (case ht => kernel_rfl); (case hf => first | (simp; done) | (simp [splice]; done)); intro w5 HS_; clear HS; have HS := HS_; clear HS_))
    go_cut [] (fun wc => St w S wc [HP.obj kb 36 [.int .i64 kv.f0, .int .i64 kv.f1, .string kv.f2], HP.obj tb 58 [.int .i64 tid, .string nm, .slice (some ⟨gc, 0, none⟩) cols.length cc, .slice Ai idx.length ci, uk], HP.row kL 83 (.slice (some ⟨gc, 0, none⟩) cols.length cc) cols, HP.row kI 87 (.slice Ai idx.length ci) idx, HP.row kC 73 (.slice Ao old.length co) old, HP.row kC 73 (.slice An new.length cn) new])
    case first =>
      by_cases ho : 0 < old.length
      · have hob : decide ((old.length : Int) > 0) = true := decide_eq_true (by omega)
        obtain rfl := hkv1 ho
        have q_tb_2 : w5.cell? ⟨tb, 2, none⟩ = some (.slice (some ⟨gc, 0, none⟩) cols.length cc) := (HS.mv 1).cell 2
        have hcid : w5.cell? ⟨gc, 0, none⟩ = some (.int .i64 cid) := col_id (HS.mv 2) hcol
        go_wp2_with fail
        refine (rows_Of.calls (old.length + 1) Ao co old cid _ _ _ w5 (St.row_reads (HS.mv 4)).2.2 hco hofo).mono ?_
        rintro x w6 ⟨rfl, hb⟩
        have HS_ := HS.later hb
        clear HS hb
        have HS := HS_
        clear HS_
        clear hcid
        clear q_tb_2
        go_wp2_with (first
          | ((with_reducible refine gate_ (.store 36 (.tmp 9) (.tmp 51)) rfl ?_); refine ev_store rfl rfl 36 (.tmp 9) (.tmp 51) rfl HS rfl rfl (seg := [.int .i64 vo.f0, .int .i64 vo.f1, .string vo.f2]) rfl ?ht rfl ?hf ?_; (case ht => kernel_rfl); (case hf => first | (simp; done) | (simp [splice]; done)); intro w7 HS_; clear HS; have HS := HS_; clear HS_))
        go_meet
        exact HS
      · have hob : decide ((old.length : Int) > 0) = false := decide_eq_false (by omega)
        obtain rfl := hkv0 ho
        go_wp2
        go_meet
        exact HS
    case rest =>
      clear HS hofo hkv1 hkv0
      have HS := hcut
      clear hcut
      go_wp2_with (first
        | ((with_reducible refine gate_dst (N := 10) rfl ?_); refine ev_box ?hg (N := 10) ?hd (cs := [.slice none 0 0]) (t := 52) HS ?hr ?_; (case hd => rfl); (case hg => rfl); (case hr => first | (go_simp; done) | (go_simp; rfl)); intro lb w8 HS_ hg_lb; clear HS; have HS := HS_; clear HS_; have q_tb_0 : w8.cell? ⟨tb, 0, none⟩ = some (.int .i64 tid) := (HS.mv 2).cell 0; have q_kb_0 : w8.cell? ⟨kb, 0, none⟩ = some (.int .i64 kv.f0) := (HS.mv 1).cell 0; have q_kb_1 : w8.cell? ⟨kb, 1, none⟩ = some (.int .i64 kv.f1) := (HS.mv 1).cell 1; have q_kb_2 : w8.cell? ⟨kb, 2, none⟩ = some (.string kv.f2) := (HS.mv 1).cell 2))
      refine (rows_Row.calls 300 tid kv.f0 kv.f1 kv.f2 _ w8 (row_eq tid kv ht64 hk64)).mono ?_
      rintro x w9 ⟨rfl, hb⟩
      have HS_ := HS.later hb
      clear HS hb
      have HS := HS_
      clear HS_
      clear q_tb_0 q_kb_0 q_kb_1 q_kb_2
      have HQ : St w S w9 (HP.obj lb 52 [.slice none 0 0] :: HP.row kW 66 (.slice none 0 0) [] :: [HP.obj kb 36 [.int .i64 kv.f0, .int .i64 kv.f1, .string kv.f2], HP.obj tb 58 [.int .i64 tid, .string nm, .slice (some ⟨gc, 0, none⟩) cols.length cc, .slice Ai idx.length ci, uk], HP.row kL 83 (.slice (some ⟨gc, 0, none⟩) cols.length cc) cols, HP.row kI 87 (.slice Ai idx.length ci) idx, HP.row kC 73 (.slice Ao old.length co) old, HP.row kC 73 (.slice An new.length cn) new]) := (HS.nil_ kW 66).mv 1
      clear HS
      obtain ⟨b, hdn⟩ : ∃ b, decide (new.length = 0) = b := ⟨_, rfl⟩
      have hnb : ((new.length : Int) == 0) = b := by rw [← hdn]; by_cases e : new.length = 0 <;> simp [e]
      rw [hdn] at HCH
      clear hdn
      go_wp2_with fail
      refine ((put_fun lb (.slice none 0 0) [] (rowK tid kv) p b (by simp)).call (F := [HP.obj kb 36 [.int .i64 kv.f0, .int .i64 kv.f1, .string kv.f2], HP.obj tb 58 [.int .i64 tid, .string nm, .slice (some ⟨gc, 0, none⟩) cols.length cc, .slice Ai idx.length ci, uk], HP.row kL 83 (.slice (some ⟨gc, 0, none⟩) cols.length cc) cols, HP.row kI 87 (.slice Ai idx.length ci) idx, HP.row kC 73 (.slice Ao old.length co) old, HP.row kC 73 (.slice An new.length cn) new]) HQ (fun _ _ _ _ => trivial)).mono ?_
      rintro x w10 ⟨vq, rfl, Hq⟩
      obtain ⟨u10, Hr⟩ := St.ex_ Hq
      obtain ⟨hvq, Hs⟩ := St.and_ Hr
      subst hvq
      have HS := St.star_ Hs
      clear Hq Hr Hs HQ hnb
      have q_tb_3 : w10.cell? ⟨tb, 3, none⟩ = some (.slice Ai idx.length ci) := (HS.mv 3).cell 3
      go_wp2_with fail
      go_loopw [66] (fun v66 w' => ∃ (j : Nat) (u : Value), j ≤ idx.length ∧ v66 = .int .i64 j ∧ St w S w' [HP.obj lb 52 [u], HP.row kW 66 u ([(⟨rowK tid kv, p, b⟩ : Wr)] ++ ((idx.take j).map (chStep old new kv)).flatten), HP.obj kb 36 [.int .i64 kv.f0, .int .i64 kv.f1, .string kv.f2], HP.obj tb 58 [.int .i64 tid, .string nm, .slice (some ⟨gc, 0, none⟩) cols.length cc, .slice Ai idx.length ci, uk], HP.row kL 83 (.slice (some ⟨gc, 0, none⟩) cols.length cc) cols, HP.row kI 87 (.slice Ai idx.length ci) idx, HP.row kC 73 (.slice Ao old.length co) old, HP.row kC 73 (.slice An new.length cn) new]) (fun v66 _ => idx.length - (intOf v66).toNat)
      case atStart => exact ⟨0, u10, Nat.zero_le _, rfl, by simpa using HS⟩
      case round =>
        clear HS
        clear q_tb_3
        obtain ⟨j, u, hj, rfl, HS⟩ := hrel
        by_cases hlt : j < idx.length
        · have hltI : (j : Int) < (idx.length : Int) := by omega
          obtain ⟨gi, ci2, ev⟩ := St.row_form (HS.mv 5) (by omega)
          simp only [Value.slice.injEq] at ev
          obtain ⟨rfl, _, rfl⟩ := ev
          obtain ⟨x, hx⟩ : ∃ x, idx[j] = x := ⟨_, rfl⟩
          have hx64 : In64 x.f0 := hix x (by rw [← hx]; exact List.getElem_mem hlt)
          obtain ⟨i0, i1, i2, i3, i4⟩ := ix_cells (HS.mv 5) j hlt
          rw [hx] at i0 i1 i2 i3 i4
          have hnext : ([(⟨rowK tid kv, p, b⟩ : Wr)] ++ ((idx.take (j + 1)).map (chStep old new kv)).flatten) = ([(⟨rowK tid kv, p, b⟩ : Wr)] ++ ((idx.take j).map (chStep old new kv)).flatten) ++ chStep old new kv x := by rw [List.take_succ_eq_append_getElem hlt, hx]; simp
          have hlen : ([(⟨rowK tid kv, p, b⟩ : Wr)] ++ ((idx.take j).map (chStep old new kv)).flatten).length ≤ 900000 := ch_len _ _ _ _ _ _ (by omega)
          have HNX := Aside0.mk hnext
          clear hnext hx
          generalize ([(⟨rowK tid kv, p, b⟩ : Wr)] ++ ((idx.take j).map (chStep old new kv)).flatten) = L at HS HNX hlen
          go_wp2_with (first
            | ((with_reducible refine gate_dst (N := 13) rfl ?_); refine ev_box ?hg (N := 13) ?hd (cs := [.int .i64 0, .string ⟨#[]⟩, .int .i64 0, .bool false, .int .i64 0]) (t := 87) HS ?hr ?_; (case hd => rfl); (case hg => rfl); (case hr => first | (go_simp; done) | (go_simp; rfl)); intro xb w11 HS_ hg_xb; clear HS; have HS := HS_; clear HS_; clear i0 i1 i2 i3 i4)
            | ((with_reducible refine gate_ (.store 87 (.tmp 13) (.tmp 69)) rfl ?_); refine ev_store rfl rfl 87 (.tmp 13) (.tmp 69) rfl HS rfl rfl (seg := [.int .i64 x.f0, .string x.f1, .int .i64 x.f2, .bool x.f3, .int .i64 x.f4]) rfl ?ht rfl ?hf ?_; (case ht => kernel_rfl); (case hf => first | (simp; done) | (simp [splice]; done)); intro w12 HS_; clear HS; have HS := HS_; clear HS_))
          obtain ⟨va, hva⟩ : ∃ va, ofC old x.f2 = va := ⟨_, rfl⟩
          obtain ⟨vb, hvb⟩ : ∃ vb, ofC new x.f2 = vb := ⟨_, rfl⟩
          have hofa := of_eq old x.f2 (by omega)
          have hofb := of_eq new x.f2 (by omega)
          rw [hva] at hofa
          rw [hvb] at hofb
          have ha64 : In64 va.f1 := by rw [← hva]; exact of_64 h6o _
          have hb64 : In64 vb.f1 := by rw [← hvb]; exact of_64 h6n _
          obtain ⟨c, hc⟩ : ∃ c : Bool, decide (0 < old.length ∧ (new.length = 0 ∨ va ≠ vb)) = c := ⟨_, rfl⟩
          obtain ⟨d, hd⟩ : ∃ d : Bool, decide (0 < new.length ∧ (x.f4 = 2 ∨ x.f4 = 3)) = d := ⟨_, rfl⟩
          have hst : chStep old new kv x = cond c [⟨entryK x.f0 va kv, ⟨#[]⟩, true⟩] [] ++ cond d [⟨entryK x.f0 vb kv, ⟨#[]⟩, false⟩] [] := by
            have h : chStep old new kv x = (if 0 < old.length ∧ (new.length = 0 ∨ va ≠ vb) then [⟨entryK x.f0 va kv, ⟨#[]⟩, true⟩] else []) ++ (if 0 < new.length ∧ (x.f4 = 2 ∨ x.f4 = 3) then [⟨entryK x.f0 vb kv, ⟨#[]⟩, false⟩] else []) := by rw [← hva, ← hvb]; rfl
            rw [h, ← hc, ← hd]
            have e1 : ∀ {α : Type} (q : Prop) [Decidable q] (l : List α), (if q then l else []) = cond (decide q) l [] := fun q _ l => by by_cases e : q; rw [if_pos e, decide_eq_true e]; rfl; rw [if_neg e, decide_eq_false e]; rfl
            rw [e1, e1]
          have HST := Aside0.mk hst
          have HC := Aside0.mk hc
          have HD := Aside0.mk hd
          clear hst hva hvb hc hd
          refine start_ (n := 12) (S := fun w' => w'.cell? ⟨xb, 2, none⟩ = some (.int .i64 x.f2)) (ds := []) #[false, false, false, false, false, false, false, false, false, false, false, false] (by kernel_rfl) rfl rfl (HS.drew.cell 2) (fun hHeld => ?_)
          refine pure_ (i := 0) (N := some 70) (v := ?_) (a' := ?_) #[true, false, false, false, false, false, false, false, false, false, false, false] rfl rfl (by kernel_rfl) (fun _ _ _ h => h) (Or.inl ⟨by rfl, ?_⟩) ?_ ?_
          rotate_left
          · intro w'
            go_simp
            with_reducible rfl
          rotate_left
          · simp only [Act.put, List.setIfInBounds_toArray, List.set_cons_zero, List.set_cons_succ, i64_w, i32_w]
            rfl
          refine pure_ (i := 1) (N := some 71) (v := ?_) (a' := ?_) #[true, true, false, false, false, false, false, false, false, false, false, false] rfl rfl (by kernel_rfl) (fun _ _ _ h => h) (Or.inl ⟨by rfl, ?_⟩) ?_ ?_
          rotate_left
          · intro w'
            go_simp
            with_reducible rfl
          rotate_left
          · simp only [Act.put, List.setIfInBounds_toArray, List.set_cons_zero, List.set_cons_succ, i64_w, i32_w]
            rfl
          refine pure_ (i := 4) (N := some 74) (v := ?_) (a' := ?_) #[true, true, false, false, true, false, false, false, false, false, false, false] rfl rfl (by kernel_rfl) (fun _ _ _ h => h) (Or.inl ⟨by rfl, ?_⟩) ?_ ?_
          rotate_left
          · intro w'
            go_simp
            with_reducible rfl
          rotate_left
          · simp only [Act.put, List.setIfInBounds_toArray, List.set_cons_zero, List.set_cons_succ, i64_w, i32_w]
            rfl
          refine pure_ (i := 5) (N := some 75) (v := ?_) (a' := ?_) #[true, true, false, false, true, true, false, false, false, false, false, false] rfl rfl (by kernel_rfl) (fun _ _ _ h => h) (Or.inl ⟨by rfl, ?_⟩) ?_ ?_
          rotate_left
          · intro w'
            go_simp
            with_reducible rfl
          rotate_left
          · simp only [Act.put, List.setIfInBounds_toArray, List.set_cons_zero, List.set_cons_succ, i64_w, i32_w]
            rfl
          refine take_ (i := 2) (N := some 72) (v := ?_) (a' := ?_) #[true, true, true, false, true, true, false, false, false, false, false, false] rfl rfl (by kernel_rfl) (fun _ _ _ h => h) (Or.inl ⟨by rfl, ?_⟩) hHeld ?_ ?_
          rotate_left
          · intro w' s0
            go_simp
            with_reducible rfl
          rotate_left
          · simp only [Act.put, List.setIfInBounds_toArray, List.set_cons_zero, List.set_cons_succ, i64_w, i32_w]
            rfl
          refine take_ (i := 6) (N := some 76) (v := ?_) (a' := ?_) #[true, true, true, false, true, true, true, false, false, false, false, false] rfl rfl (by kernel_rfl) (fun _ _ _ h => h) (Or.inl ⟨by rfl, ?_⟩) hHeld ?_ ?_
          rotate_left
          · intro w' s0
            go_simp
            with_reducible rfl
          rotate_left
          · simp only [Act.put, List.setIfInBounds_toArray, List.set_cons_zero, List.set_cons_succ, i64_w, i32_w]
            rfl
          refine join_ (σ := Nat × Nat) 2 #[true, true, true, true, true, true, true, true, true, true, false, false] (fun s => [(73, .agg #[.int .i64 va.f0, .int .i64 va.f1, .string va.f2]), (77, .agg #[.int .i64 vb.f0, .int .i64 vb.f1, .string vb.f2]), (14, .pointer (some ⟨s.1, 0, none⟩)), (15, .pointer (some ⟨s.2, 0, none⟩))]) (fun s w' => St w S w' [HP.obj s.1 36 [.int .i64 0, .int .i64 0, .string ⟨#[]⟩], HP.obj s.2 36 [.int .i64 0, .int .i64 0, .string ⟨#[]⟩], HP.obj xb 87 [.int .i64 x.f0, .string x.f1, .int .i64 x.f2, .bool x.f3, .int .i64 x.f4], HP.obj lb 52 [u], HP.row kW 66 u L, HP.obj kb 36 [.int .i64 kv.f0, .int .i64 kv.f1, .string kv.f2], HP.obj tb 58 [.int .i64 tid, .string nm, .slice (some ⟨gc, 0, none⟩) cols.length cc, .slice (some ⟨gi, 0, none⟩) idx.length ci, uk], HP.row kL 83 (.slice (some ⟨gc, 0, none⟩) cols.length cc) cols, HP.row kI 87 (.slice (some ⟨gi, 0, none⟩) idx.length ci) idx, HP.row kC 73 (.slice Ao old.length co) old, HP.row kC 73 (.slice An new.length cn) new]) ?_ ?_
          rotate_left
          · intro hCont
            refine three_ (i := 3) (j := 8) (k := 9) (Ni := some 73) (Nj := some 14) (Nk := some 15) #[true, true, true, true, true, true, true, false, false, false, false, false] #[true, true, true, false, true, true, true, false, true, false, false, false] #[true, true, true, false, true, true, true, false, false, true, false, false] rfl rfl rfl rfl rfl rfl (by kernel_rfl) (by decide) (by decide) (by decide) (fun K hK => ?_) (fun K hK => ?_) (fun K hK => ?_)
            · skip
              have HS_ := HS.drew
              clear HS
              have HS := HS_
              clear HS_
              refine goes_ Try.func13 (by kernel_rfl) rfl #[.slice Ao old.length co, .int .i64 x.f2] (by rfl) rfl rfl (by simp only [List.map_toArray, List.map_cons, List.map_nil]; rfl) ?_
              with_reducible refine (rows_Of.calls (old.length + 1) Ao co old x.f2 _ _ _ _ (St.row_reads (HS.mv 7)).2.2 hco hofa).mono ?_
              rintro e w15 ⟨rfl, hb⟩
              refine ⟨_, rfl, ?_⟩
              have HS_ := HS.later hb
              clear HS hb
              have HS := HS_
              clear HS_
              refine hK.out _ _ (HS.cell 2) (fun hHeld => ?_)
              clear hK K
              refine norm_ (a' := ?_) ?_ ?_
              rotate_left
              · show Act.put _ (some 73) _ = _
                simp only [Act.put, List.setIfInBounds_toArray, List.set_cons_zero, List.set_cons_succ, i64_w, i32_w]
                rfl
              refine three_ (i := 7) (j := 8) (k := 9) (Ni := some 77) (Nj := some 14) (Nk := some 15) #[true, true, true, true, true, true, true, true, false, false, false, false] #[true, true, true, true, true, true, true, false, true, false, false, false] #[true, true, true, true, true, true, true, false, false, true, false, false] rfl rfl rfl rfl rfl rfl (by kernel_rfl) (by decide) (by decide) (by decide) (fun K hK => ?_) (fun K hK => ?_) (fun K hK => ?_)
              · skip
                refine goes_ Try.func13 (by kernel_rfl) rfl #[.slice An new.length cn, .int .i64 x.f2] (by rfl) rfl rfl (by simp only [List.map_toArray, List.map_cons, List.map_nil]; rfl) ?_
                with_reducible refine (rows_Of.calls (new.length + 1) An cn new x.f2 _ _ _ _ (St.row_reads (HS.mv 8)).2.2 hcn hofb).mono ?_
                rintro e w15 ⟨rfl, hb⟩
                refine ⟨_, rfl, ?_⟩
                have HS_ := HS.later hb
                clear HS hb
                have HS := HS_
                clear HS_
                refine hK.out _ _ (HS.cell 2) (fun hHeld => ?_)
                clear hK K
                refine norm_ (a' := ?_) ?_ ?_
                rotate_left
                · show Act.put _ (some 77) _ = _
                  simp only [Act.put, List.setIfInBounds_toArray, List.set_cons_zero, List.set_cons_succ, i64_w, i32_w]
                  rfl
                refine two_ (i := 8) (j := 9) (Ni := some 14) (Nj := some 15) #[true, true, true, true, true, true, true, true, true, false, false, false] #[true, true, true, true, true, true, true, true, false, true, false, false] rfl rfl rfl rfl (by kernel_rfl) (by decide) (by decide) (fun K hK => ?_) (fun K hK => ?_)
                · skip
                  refine ev_box_step (by rfl) rfl (cs := [.int .i64 0, .int .i64 0, .string ⟨#[]⟩]) (t := 36) HS ?hr ?_
                  case hr => first | (go_simp; done) | (go_simp; rfl)
                  intro g8 w15 HS_ hg_
                  clear HS
                  have HS := HS_
                  clear HS_ hg_
                  refine hK.out _ _ ((HS.mv 1).cell 2) (fun hHeld => ?_)
                  clear hK K
                  refine norm_ (a' := ?_) ?_ ?_
                  rotate_left
                  · show Act.put _ (some 14) _ = _
                    simp only [Act.put, List.setIfInBounds_toArray, List.set_cons_zero, List.set_cons_succ, i64_w, i32_w]
                    rfl
                  refine one_ (i := 9) (N := some 15) #[true, true, true, true, true, true, true, true, true, true, false, false] rfl rfl (by kernel_rfl) (by decide) (fun K hK => ?_)
                  refine ev_box_step (by rfl) rfl (cs := [.int .i64 0, .int .i64 0, .string ⟨#[]⟩]) (t := 36) HS ?hr ?_
                  case hr => first | (go_simp; done) | (go_simp; rfl)
                  intro g9 w15 HS_ hg_
                  clear HS
                  have HS := HS_
                  clear HS_ hg_
                  refine hK.out _ _ ((HS.mv 2).cell 2) (fun hHeld => ?_)
                  clear hK K
                  refine norm_ (a' := ?_) ?_ ?_
                  rotate_left
                  · show Act.put _ (some 15) _ = _
                    simp only [Act.put, List.setIfInBounds_toArray, List.set_cons_zero, List.set_cons_succ, i64_w, i32_w]
                    rfl
                  exact norm_ (by simp only [putAll, Act.put, List.setIfInBounds_toArray, List.set_cons_zero, List.set_cons_succ]) (hCont (g8, g9) _ (HS.mv 1))
                · skip
                  refine ev_box_step (by rfl) rfl (cs := [.int .i64 0, .int .i64 0, .string ⟨#[]⟩]) (t := 36) HS ?hr ?_
                  case hr => first | (go_simp; done) | (go_simp; rfl)
                  intro g9 w15 HS_ hg_
                  clear HS
                  have HS := HS_
                  clear HS_ hg_
                  refine hK.out _ _ ((HS.mv 1).cell 2) (fun hHeld => ?_)
                  clear hK K
                  refine norm_ (a' := ?_) ?_ ?_
                  rotate_left
                  · show Act.put _ (some 15) _ = _
                    simp only [Act.put, List.setIfInBounds_toArray, List.set_cons_zero, List.set_cons_succ, i64_w, i32_w]
                    rfl
                  refine one_ (i := 8) (N := some 14) #[true, true, true, true, true, true, true, true, true, true, false, false] rfl rfl (by kernel_rfl) (by decide) (fun K hK => ?_)
                  refine ev_box_step (by rfl) rfl (cs := [.int .i64 0, .int .i64 0, .string ⟨#[]⟩]) (t := 36) HS ?hr ?_
                  case hr => first | (go_simp; done) | (go_simp; rfl)
                  intro g8 w15 HS_ hg_
                  clear HS
                  have HS := HS_
                  clear HS_ hg_
                  refine hK.out _ _ ((HS.mv 2).cell 2) (fun hHeld => ?_)
                  clear hK K
                  refine norm_ (a' := ?_) ?_ ?_
                  rotate_left
                  · show Act.put _ (some 14) _ = _
                    simp only [Act.put, List.setIfInBounds_toArray, List.set_cons_zero, List.set_cons_succ, i64_w, i32_w]
                    rfl
                  exact norm_ (by simp only [putAll, Act.put, List.setIfInBounds_toArray, List.set_cons_zero, List.set_cons_succ]) (hCont (g8, g9) _ HS)
              · skip
                refine ev_box_step (by rfl) rfl (cs := [.int .i64 0, .int .i64 0, .string ⟨#[]⟩]) (t := 36) HS ?hr ?_
                case hr => first | (go_simp; done) | (go_simp; rfl)
                intro g8 w15 HS_ hg_
                clear HS
                have HS := HS_
                clear HS_ hg_
                refine hK.out _ _ ((HS.mv 1).cell 2) (fun hHeld => ?_)
                clear hK K
                refine norm_ (a' := ?_) ?_ ?_
                rotate_left
                · show Act.put _ (some 14) _ = _
                  simp only [Act.put, List.setIfInBounds_toArray, List.set_cons_zero, List.set_cons_succ, i64_w, i32_w]
                  rfl
                refine two_ (i := 7) (j := 9) (Ni := some 77) (Nj := some 15) #[true, true, true, true, true, true, true, true, true, false, false, false] #[true, true, true, true, true, true, true, false, true, true, false, false] rfl rfl rfl rfl (by kernel_rfl) (by decide) (by decide) (fun K hK => ?_) (fun K hK => ?_)
                · skip
                  refine goes_ Try.func13 (by kernel_rfl) rfl #[.slice An new.length cn, .int .i64 x.f2] (by rfl) rfl rfl (by simp only [List.map_toArray, List.map_cons, List.map_nil]; rfl) ?_
                  with_reducible refine (rows_Of.calls (new.length + 1) An cn new x.f2 _ _ _ _ (St.row_reads (HS.mv 9)).2.2 hcn hofb).mono ?_
                  rintro e w15 ⟨rfl, hb⟩
                  refine ⟨_, rfl, ?_⟩
                  have HS_ := HS.later hb
                  clear HS hb
                  have HS := HS_
                  clear HS_
                  refine hK.out _ _ ((HS.mv 1).cell 2) (fun hHeld => ?_)
                  clear hK K
                  refine norm_ (a' := ?_) ?_ ?_
                  rotate_left
                  · show Act.put _ (some 77) _ = _
                    simp only [Act.put, List.setIfInBounds_toArray, List.set_cons_zero, List.set_cons_succ, i64_w, i32_w]
                    rfl
                  refine one_ (i := 9) (N := some 15) #[true, true, true, true, true, true, true, true, true, true, false, false] rfl rfl (by kernel_rfl) (by decide) (fun K hK => ?_)
                  refine ev_box_step (by rfl) rfl (cs := [.int .i64 0, .int .i64 0, .string ⟨#[]⟩]) (t := 36) HS ?hr ?_
                  case hr => first | (go_simp; done) | (go_simp; rfl)
                  intro g9 w15 HS_ hg_
                  clear HS
                  have HS := HS_
                  clear HS_ hg_
                  refine hK.out _ _ ((HS.mv 2).cell 2) (fun hHeld => ?_)
                  clear hK K
                  refine norm_ (a' := ?_) ?_ ?_
                  rotate_left
                  · show Act.put _ (some 15) _ = _
                    simp only [Act.put, List.setIfInBounds_toArray, List.set_cons_zero, List.set_cons_succ, i64_w, i32_w]
                    rfl
                  exact norm_ (by simp only [putAll, Act.put, List.setIfInBounds_toArray, List.set_cons_zero, List.set_cons_succ]) (hCont (g8, g9) _ (HS.mv 1))
                · skip
                  refine ev_box_step (by rfl) rfl (cs := [.int .i64 0, .int .i64 0, .string ⟨#[]⟩]) (t := 36) HS ?hr ?_
                  case hr => first | (go_simp; done) | (go_simp; rfl)
                  intro g9 w15 HS_ hg_
                  clear HS
                  have HS := HS_
                  clear HS_ hg_
                  refine hK.out _ _ ((HS.mv 2).cell 2) (fun hHeld => ?_)
                  clear hK K
                  refine norm_ (a' := ?_) ?_ ?_
                  rotate_left
                  · show Act.put _ (some 15) _ = _
                    simp only [Act.put, List.setIfInBounds_toArray, List.set_cons_zero, List.set_cons_succ, i64_w, i32_w]
                    rfl
                  refine one_ (i := 7) (N := some 77) #[true, true, true, true, true, true, true, true, true, true, false, false] rfl rfl (by kernel_rfl) (by decide) (fun K hK => ?_)
                  refine goes_ Try.func13 (by kernel_rfl) rfl #[.slice An new.length cn, .int .i64 x.f2] (by rfl) rfl rfl (by simp only [List.map_toArray, List.map_cons, List.map_nil]; rfl) ?_
                  with_reducible refine (rows_Of.calls (new.length + 1) An cn new x.f2 _ _ _ _ (St.row_reads (HS.mv 10)).2.2 hcn hofb).mono ?_
                  rintro e w15 ⟨rfl, hb⟩
                  refine ⟨_, rfl, ?_⟩
                  have HS_ := HS.later hb
                  clear HS hb
                  have HS := HS_
                  clear HS_
                  refine hK.out _ _ ((HS.mv 2).cell 2) (fun hHeld => ?_)
                  clear hK K
                  refine norm_ (a' := ?_) ?_ ?_
                  rotate_left
                  · show Act.put _ (some 77) _ = _
                    simp only [Act.put, List.setIfInBounds_toArray, List.set_cons_zero, List.set_cons_succ, i64_w, i32_w]
                    rfl
                  exact norm_ (by simp only [putAll, Act.put, List.setIfInBounds_toArray, List.set_cons_zero, List.set_cons_succ]) (hCont (g8, g9) _ (HS.mv 1))
              · skip
                refine ev_box_step (by rfl) rfl (cs := [.int .i64 0, .int .i64 0, .string ⟨#[]⟩]) (t := 36) HS ?hr ?_
                case hr => first | (go_simp; done) | (go_simp; rfl)
                intro g9 w15 HS_ hg_
                clear HS
                have HS := HS_
                clear HS_ hg_
                refine hK.out _ _ ((HS.mv 1).cell 2) (fun hHeld => ?_)
                clear hK K
                refine norm_ (a' := ?_) ?_ ?_
                rotate_left
                · show Act.put _ (some 15) _ = _
                  simp only [Act.put, List.setIfInBounds_toArray, List.set_cons_zero, List.set_cons_succ, i64_w, i32_w]
                  rfl
                refine two_ (i := 7) (j := 8) (Ni := some 77) (Nj := some 14) #[true, true, true, true, true, true, true, true, false, true, false, false] #[true, true, true, true, true, true, true, false, true, true, false, false] rfl rfl rfl rfl (by kernel_rfl) (by decide) (by decide) (fun K hK => ?_) (fun K hK => ?_)
                · skip
                  refine goes_ Try.func13 (by kernel_rfl) rfl #[.slice An new.length cn, .int .i64 x.f2] (by rfl) rfl rfl (by simp only [List.map_toArray, List.map_cons, List.map_nil]; rfl) ?_
                  with_reducible refine (rows_Of.calls (new.length + 1) An cn new x.f2 _ _ _ _ (St.row_reads (HS.mv 9)).2.2 hcn hofb).mono ?_
                  rintro e w15 ⟨rfl, hb⟩
                  refine ⟨_, rfl, ?_⟩
                  have HS_ := HS.later hb
                  clear HS hb
                  have HS := HS_
                  clear HS_
                  refine hK.out _ _ ((HS.mv 1).cell 2) (fun hHeld => ?_)
                  clear hK K
                  refine norm_ (a' := ?_) ?_ ?_
                  rotate_left
                  · show Act.put _ (some 77) _ = _
                    simp only [Act.put, List.setIfInBounds_toArray, List.set_cons_zero, List.set_cons_succ, i64_w, i32_w]
                    rfl
                  refine one_ (i := 8) (N := some 14) #[true, true, true, true, true, true, true, true, true, true, false, false] rfl rfl (by kernel_rfl) (by decide) (fun K hK => ?_)
                  refine ev_box_step (by rfl) rfl (cs := [.int .i64 0, .int .i64 0, .string ⟨#[]⟩]) (t := 36) HS ?hr ?_
                  case hr => first | (go_simp; done) | (go_simp; rfl)
                  intro g8 w15 HS_ hg_
                  clear HS
                  have HS := HS_
                  clear HS_ hg_
                  refine hK.out _ _ ((HS.mv 2).cell 2) (fun hHeld => ?_)
                  clear hK K
                  refine norm_ (a' := ?_) ?_ ?_
                  rotate_left
                  · show Act.put _ (some 14) _ = _
                    simp only [Act.put, List.setIfInBounds_toArray, List.set_cons_zero, List.set_cons_succ, i64_w, i32_w]
                    rfl
                  exact norm_ (by simp only [putAll, Act.put, List.setIfInBounds_toArray, List.set_cons_zero, List.set_cons_succ]) (hCont (g8, g9) _ HS)
                · skip
                  refine ev_box_step (by rfl) rfl (cs := [.int .i64 0, .int .i64 0, .string ⟨#[]⟩]) (t := 36) HS ?hr ?_
                  case hr => first | (go_simp; done) | (go_simp; rfl)
                  intro g8 w15 HS_ hg_
                  clear HS
                  have HS := HS_
                  clear HS_ hg_
                  refine hK.out _ _ ((HS.mv 2).cell 2) (fun hHeld => ?_)
                  clear hK K
                  refine norm_ (a' := ?_) ?_ ?_
                  rotate_left
                  · show Act.put _ (some 14) _ = _
                    simp only [Act.put, List.setIfInBounds_toArray, List.set_cons_zero, List.set_cons_succ, i64_w, i32_w]
                    rfl
                  refine one_ (i := 7) (N := some 77) #[true, true, true, true, true, true, true, true, true, true, false, false] rfl rfl (by kernel_rfl) (by decide) (fun K hK => ?_)
                  refine goes_ Try.func13 (by kernel_rfl) rfl #[.slice An new.length cn, .int .i64 x.f2] (by rfl) rfl rfl (by simp only [List.map_toArray, List.map_cons, List.map_nil]; rfl) ?_
                  with_reducible refine (rows_Of.calls (new.length + 1) An cn new x.f2 _ _ _ _ (St.row_reads (HS.mv 10)).2.2 hcn hofb).mono ?_
                  rintro e w15 ⟨rfl, hb⟩
                  refine ⟨_, rfl, ?_⟩
                  have HS_ := HS.later hb
                  clear HS hb
                  have HS := HS_
                  clear HS_
                  refine hK.out _ _ ((HS.mv 2).cell 2) (fun hHeld => ?_)
                  clear hK K
                  refine norm_ (a' := ?_) ?_ ?_
                  rotate_left
                  · show Act.put _ (some 77) _ = _
                    simp only [Act.put, List.setIfInBounds_toArray, List.set_cons_zero, List.set_cons_succ, i64_w, i32_w]
                    rfl
                  exact norm_ (by simp only [putAll, Act.put, List.setIfInBounds_toArray, List.set_cons_zero, List.set_cons_succ]) (hCont (g8, g9) _ HS)
            · skip
              have HS_ := HS.drew
              clear HS
              have HS := HS_
              clear HS_
              refine ev_box_step (by rfl) rfl (cs := [.int .i64 0, .int .i64 0, .string ⟨#[]⟩]) (t := 36) HS ?hr ?_
              case hr => first | (go_simp; done) | (go_simp; rfl)
              intro g8 w15 HS_ hg_
              clear HS
              have HS := HS_
              clear HS_ hg_
              refine hK.out _ _ ((HS.mv 1).cell 2) (fun hHeld => ?_)
              clear hK K
              refine norm_ (a' := ?_) ?_ ?_
              rotate_left
              · show Act.put _ (some 14) _ = _
                simp only [Act.put, List.setIfInBounds_toArray, List.set_cons_zero, List.set_cons_succ, i64_w, i32_w]
                rfl
              refine two_ (i := 3) (j := 9) (Ni := some 73) (Nj := some 15) #[true, true, true, true, true, true, true, false, true, false, false, false] #[true, true, true, false, true, true, true, false, true, true, false, false] rfl rfl rfl rfl (by kernel_rfl) (by decide) (by decide) (fun K hK => ?_) (fun K hK => ?_)
              · skip
                refine goes_ Try.func13 (by kernel_rfl) rfl #[.slice Ao old.length co, .int .i64 x.f2] (by rfl) rfl rfl (by simp only [List.map_toArray, List.map_cons, List.map_nil]; rfl) ?_
                with_reducible refine (rows_Of.calls (old.length + 1) Ao co old x.f2 _ _ _ _ (St.row_reads (HS.mv 8)).2.2 hco hofa).mono ?_
                rintro e w15 ⟨rfl, hb⟩
                refine ⟨_, rfl, ?_⟩
                have HS_ := HS.later hb
                clear HS hb
                have HS := HS_
                clear HS_
                refine hK.out _ _ ((HS.mv 1).cell 2) (fun hHeld => ?_)
                clear hK K
                refine norm_ (a' := ?_) ?_ ?_
                rotate_left
                · show Act.put _ (some 73) _ = _
                  simp only [Act.put, List.setIfInBounds_toArray, List.set_cons_zero, List.set_cons_succ, i64_w, i32_w]
                  rfl
                refine two_ (i := 7) (j := 9) (Ni := some 77) (Nj := some 15) #[true, true, true, true, true, true, true, true, true, false, false, false] #[true, true, true, true, true, true, true, false, true, true, false, false] rfl rfl rfl rfl (by kernel_rfl) (by decide) (by decide) (fun K hK => ?_) (fun K hK => ?_)
                · skip
                  refine goes_ Try.func13 (by kernel_rfl) rfl #[.slice An new.length cn, .int .i64 x.f2] (by rfl) rfl rfl (by simp only [List.map_toArray, List.map_cons, List.map_nil]; rfl) ?_
                  with_reducible refine (rows_Of.calls (new.length + 1) An cn new x.f2 _ _ _ _ (St.row_reads (HS.mv 9)).2.2 hcn hofb).mono ?_
                  rintro e w15 ⟨rfl, hb⟩
                  refine ⟨_, rfl, ?_⟩
                  have HS_ := HS.later hb
                  clear HS hb
                  have HS := HS_
                  clear HS_
                  refine hK.out _ _ ((HS.mv 1).cell 2) (fun hHeld => ?_)
                  clear hK K
                  refine norm_ (a' := ?_) ?_ ?_
                  rotate_left
                  · show Act.put _ (some 77) _ = _
                    simp only [Act.put, List.setIfInBounds_toArray, List.set_cons_zero, List.set_cons_succ, i64_w, i32_w]
                    rfl
                  refine one_ (i := 9) (N := some 15) #[true, true, true, true, true, true, true, true, true, true, false, false] rfl rfl (by kernel_rfl) (by decide) (fun K hK => ?_)
                  refine ev_box_step (by rfl) rfl (cs := [.int .i64 0, .int .i64 0, .string ⟨#[]⟩]) (t := 36) HS ?hr ?_
                  case hr => first | (go_simp; done) | (go_simp; rfl)
                  intro g9 w15 HS_ hg_
                  clear HS
                  have HS := HS_
                  clear HS_ hg_
                  refine hK.out _ _ ((HS.mv 2).cell 2) (fun hHeld => ?_)
                  clear hK K
                  refine norm_ (a' := ?_) ?_ ?_
                  rotate_left
                  · show Act.put _ (some 15) _ = _
                    simp only [Act.put, List.setIfInBounds_toArray, List.set_cons_zero, List.set_cons_succ, i64_w, i32_w]
                    rfl
                  exact norm_ (by simp only [putAll, Act.put, List.setIfInBounds_toArray, List.set_cons_zero, List.set_cons_succ]) (hCont (g8, g9) _ (HS.mv 1))
                · skip
                  refine ev_box_step (by rfl) rfl (cs := [.int .i64 0, .int .i64 0, .string ⟨#[]⟩]) (t := 36) HS ?hr ?_
                  case hr => first | (go_simp; done) | (go_simp; rfl)
                  intro g9 w15 HS_ hg_
                  clear HS
                  have HS := HS_
                  clear HS_ hg_
                  refine hK.out _ _ ((HS.mv 2).cell 2) (fun hHeld => ?_)
                  clear hK K
                  refine norm_ (a' := ?_) ?_ ?_
                  rotate_left
                  · show Act.put _ (some 15) _ = _
                    simp only [Act.put, List.setIfInBounds_toArray, List.set_cons_zero, List.set_cons_succ, i64_w, i32_w]
                    rfl
                  refine one_ (i := 7) (N := some 77) #[true, true, true, true, true, true, true, true, true, true, false, false] rfl rfl (by kernel_rfl) (by decide) (fun K hK => ?_)
                  refine goes_ Try.func13 (by kernel_rfl) rfl #[.slice An new.length cn, .int .i64 x.f2] (by rfl) rfl rfl (by simp only [List.map_toArray, List.map_cons, List.map_nil]; rfl) ?_
                  with_reducible refine (rows_Of.calls (new.length + 1) An cn new x.f2 _ _ _ _ (St.row_reads (HS.mv 10)).2.2 hcn hofb).mono ?_
                  rintro e w15 ⟨rfl, hb⟩
                  refine ⟨_, rfl, ?_⟩
                  have HS_ := HS.later hb
                  clear HS hb
                  have HS := HS_
                  clear HS_
                  refine hK.out _ _ ((HS.mv 2).cell 2) (fun hHeld => ?_)
                  clear hK K
                  refine norm_ (a' := ?_) ?_ ?_
                  rotate_left
                  · show Act.put _ (some 77) _ = _
                    simp only [Act.put, List.setIfInBounds_toArray, List.set_cons_zero, List.set_cons_succ, i64_w, i32_w]
                    rfl
                  exact norm_ (by simp only [putAll, Act.put, List.setIfInBounds_toArray, List.set_cons_zero, List.set_cons_succ]) (hCont (g8, g9) _ (HS.mv 1))
              · skip
                refine ev_box_step (by rfl) rfl (cs := [.int .i64 0, .int .i64 0, .string ⟨#[]⟩]) (t := 36) HS ?hr ?_
                case hr => first | (go_simp; done) | (go_simp; rfl)
                intro g9 w15 HS_ hg_
                clear HS
                have HS := HS_
                clear HS_ hg_
                refine hK.out _ _ ((HS.mv 2).cell 2) (fun hHeld => ?_)
                clear hK K
                refine norm_ (a' := ?_) ?_ ?_
                rotate_left
                · show Act.put _ (some 15) _ = _
                  simp only [Act.put, List.setIfInBounds_toArray, List.set_cons_zero, List.set_cons_succ, i64_w, i32_w]
                  rfl
                refine one_ (i := 3) (N := some 73) #[true, true, true, true, true, true, true, false, true, true, false, false] rfl rfl (by kernel_rfl) (by decide) (fun K hK => ?_)
                refine goes_ Try.func13 (by kernel_rfl) rfl #[.slice Ao old.length co, .int .i64 x.f2] (by rfl) rfl rfl (by simp only [List.map_toArray, List.map_cons, List.map_nil]; rfl) ?_
                with_reducible refine (rows_Of.calls (old.length + 1) Ao co old x.f2 _ _ _ _ (St.row_reads (HS.mv 9)).2.2 hco hofa).mono ?_
                rintro e w15 ⟨rfl, hb⟩
                refine ⟨_, rfl, ?_⟩
                have HS_ := HS.later hb
                clear HS hb
                have HS := HS_
                clear HS_
                refine hK.out _ _ ((HS.mv 2).cell 2) (fun hHeld => ?_)
                clear hK K
                refine norm_ (a' := ?_) ?_ ?_
                rotate_left
                · show Act.put _ (some 73) _ = _
                  simp only [Act.put, List.setIfInBounds_toArray, List.set_cons_zero, List.set_cons_succ, i64_w, i32_w]
                  rfl
                refine one_ (i := 7) (N := some 77) #[true, true, true, true, true, true, true, true, true, true, false, false] rfl rfl (by kernel_rfl) (by decide) (fun K hK => ?_)
                refine goes_ Try.func13 (by kernel_rfl) rfl #[.slice An new.length cn, .int .i64 x.f2] (by rfl) rfl rfl (by simp only [List.map_toArray, List.map_cons, List.map_nil]; rfl) ?_
                with_reducible refine (rows_Of.calls (new.length + 1) An cn new x.f2 _ _ _ _ (St.row_reads (HS.mv 10)).2.2 hcn hofb).mono ?_
                rintro e w15 ⟨rfl, hb⟩
                refine ⟨_, rfl, ?_⟩
                have HS_ := HS.later hb
                clear HS hb
                have HS := HS_
                clear HS_
                refine hK.out _ _ ((HS.mv 2).cell 2) (fun hHeld => ?_)
                clear hK K
                refine norm_ (a' := ?_) ?_ ?_
                rotate_left
                · show Act.put _ (some 77) _ = _
                  simp only [Act.put, List.setIfInBounds_toArray, List.set_cons_zero, List.set_cons_succ, i64_w, i32_w]
                  rfl
                exact norm_ (by simp only [putAll, Act.put, List.setIfInBounds_toArray, List.set_cons_zero, List.set_cons_succ]) (hCont (g8, g9) _ (HS.mv 1))
            · skip
              have HS_ := HS.drew
              clear HS
              have HS := HS_
              clear HS_
              refine ev_box_step (by rfl) rfl (cs := [.int .i64 0, .int .i64 0, .string ⟨#[]⟩]) (t := 36) HS ?hr ?_
              case hr => first | (go_simp; done) | (go_simp; rfl)
              intro g9 w15 HS_ hg_
              clear HS
              have HS := HS_
              clear HS_ hg_
              refine hK.out _ _ ((HS.mv 1).cell 2) (fun hHeld => ?_)
              clear hK K
              refine norm_ (a' := ?_) ?_ ?_
              rotate_left
              · show Act.put _ (some 15) _ = _
                simp only [Act.put, List.setIfInBounds_toArray, List.set_cons_zero, List.set_cons_succ, i64_w, i32_w]
                rfl
              refine two_ (i := 3) (j := 8) (Ni := some 73) (Nj := some 14) #[true, true, true, true, true, true, true, false, false, true, false, false] #[true, true, true, false, true, true, true, false, true, true, false, false] rfl rfl rfl rfl (by kernel_rfl) (by decide) (by decide) (fun K hK => ?_) (fun K hK => ?_)
              · skip
                refine goes_ Try.func13 (by kernel_rfl) rfl #[.slice Ao old.length co, .int .i64 x.f2] (by rfl) rfl rfl (by simp only [List.map_toArray, List.map_cons, List.map_nil]; rfl) ?_
                with_reducible refine (rows_Of.calls (old.length + 1) Ao co old x.f2 _ _ _ _ (St.row_reads (HS.mv 8)).2.2 hco hofa).mono ?_
                rintro e w15 ⟨rfl, hb⟩
                refine ⟨_, rfl, ?_⟩
                have HS_ := HS.later hb
                clear HS hb
                have HS := HS_
                clear HS_
                refine hK.out _ _ ((HS.mv 1).cell 2) (fun hHeld => ?_)
                clear hK K
                refine norm_ (a' := ?_) ?_ ?_
                rotate_left
                · show Act.put _ (some 73) _ = _
                  simp only [Act.put, List.setIfInBounds_toArray, List.set_cons_zero, List.set_cons_succ, i64_w, i32_w]
                  rfl
                refine two_ (i := 7) (j := 8) (Ni := some 77) (Nj := some 14) #[true, true, true, true, true, true, true, true, false, true, false, false] #[true, true, true, true, true, true, true, false, true, true, false, false] rfl rfl rfl rfl (by kernel_rfl) (by decide) (by decide) (fun K hK => ?_) (fun K hK => ?_)
                · skip
                  refine goes_ Try.func13 (by kernel_rfl) rfl #[.slice An new.length cn, .int .i64 x.f2] (by rfl) rfl rfl (by simp only [List.map_toArray, List.map_cons, List.map_nil]; rfl) ?_
                  with_reducible refine (rows_Of.calls (new.length + 1) An cn new x.f2 _ _ _ _ (St.row_reads (HS.mv 9)).2.2 hcn hofb).mono ?_
                  rintro e w15 ⟨rfl, hb⟩
                  refine ⟨_, rfl, ?_⟩
                  have HS_ := HS.later hb
                  clear HS hb
                  have HS := HS_
                  clear HS_
                  refine hK.out _ _ ((HS.mv 1).cell 2) (fun hHeld => ?_)
                  clear hK K
                  refine norm_ (a' := ?_) ?_ ?_
                  rotate_left
                  · show Act.put _ (some 77) _ = _
                    simp only [Act.put, List.setIfInBounds_toArray, List.set_cons_zero, List.set_cons_succ, i64_w, i32_w]
                    rfl
                  refine one_ (i := 8) (N := some 14) #[true, true, true, true, true, true, true, true, true, true, false, false] rfl rfl (by kernel_rfl) (by decide) (fun K hK => ?_)
                  refine ev_box_step (by rfl) rfl (cs := [.int .i64 0, .int .i64 0, .string ⟨#[]⟩]) (t := 36) HS ?hr ?_
                  case hr => first | (go_simp; done) | (go_simp; rfl)
                  intro g8 w15 HS_ hg_
                  clear HS
                  have HS := HS_
                  clear HS_ hg_
                  refine hK.out _ _ ((HS.mv 2).cell 2) (fun hHeld => ?_)
                  clear hK K
                  refine norm_ (a' := ?_) ?_ ?_
                  rotate_left
                  · show Act.put _ (some 14) _ = _
                    simp only [Act.put, List.setIfInBounds_toArray, List.set_cons_zero, List.set_cons_succ, i64_w, i32_w]
                    rfl
                  exact norm_ (by simp only [putAll, Act.put, List.setIfInBounds_toArray, List.set_cons_zero, List.set_cons_succ]) (hCont (g8, g9) _ HS)
                · skip
                  refine ev_box_step (by rfl) rfl (cs := [.int .i64 0, .int .i64 0, .string ⟨#[]⟩]) (t := 36) HS ?hr ?_
                  case hr => first | (go_simp; done) | (go_simp; rfl)
                  intro g8 w15 HS_ hg_
                  clear HS
                  have HS := HS_
                  clear HS_ hg_
                  refine hK.out _ _ ((HS.mv 2).cell 2) (fun hHeld => ?_)
                  clear hK K
                  refine norm_ (a' := ?_) ?_ ?_
                  rotate_left
                  · show Act.put _ (some 14) _ = _
                    simp only [Act.put, List.setIfInBounds_toArray, List.set_cons_zero, List.set_cons_succ, i64_w, i32_w]
                    rfl
                  refine one_ (i := 7) (N := some 77) #[true, true, true, true, true, true, true, true, true, true, false, false] rfl rfl (by kernel_rfl) (by decide) (fun K hK => ?_)
                  refine goes_ Try.func13 (by kernel_rfl) rfl #[.slice An new.length cn, .int .i64 x.f2] (by rfl) rfl rfl (by simp only [List.map_toArray, List.map_cons, List.map_nil]; rfl) ?_
                  with_reducible refine (rows_Of.calls (new.length + 1) An cn new x.f2 _ _ _ _ (St.row_reads (HS.mv 10)).2.2 hcn hofb).mono ?_
                  rintro e w15 ⟨rfl, hb⟩
                  refine ⟨_, rfl, ?_⟩
                  have HS_ := HS.later hb
                  clear HS hb
                  have HS := HS_
                  clear HS_
                  refine hK.out _ _ ((HS.mv 2).cell 2) (fun hHeld => ?_)
                  clear hK K
                  refine norm_ (a' := ?_) ?_ ?_
                  rotate_left
                  · show Act.put _ (some 77) _ = _
                    simp only [Act.put, List.setIfInBounds_toArray, List.set_cons_zero, List.set_cons_succ, i64_w, i32_w]
                    rfl
                  exact norm_ (by simp only [putAll, Act.put, List.setIfInBounds_toArray, List.set_cons_zero, List.set_cons_succ]) (hCont (g8, g9) _ HS)
              · skip
                refine ev_box_step (by rfl) rfl (cs := [.int .i64 0, .int .i64 0, .string ⟨#[]⟩]) (t := 36) HS ?hr ?_
                case hr => first | (go_simp; done) | (go_simp; rfl)
                intro g8 w15 HS_ hg_
                clear HS
                have HS := HS_
                clear HS_ hg_
                refine hK.out _ _ ((HS.mv 2).cell 2) (fun hHeld => ?_)
                clear hK K
                refine norm_ (a' := ?_) ?_ ?_
                rotate_left
                · show Act.put _ (some 14) _ = _
                  simp only [Act.put, List.setIfInBounds_toArray, List.set_cons_zero, List.set_cons_succ, i64_w, i32_w]
                  rfl
                refine one_ (i := 3) (N := some 73) #[true, true, true, true, true, true, true, false, true, true, false, false] rfl rfl (by kernel_rfl) (by decide) (fun K hK => ?_)
                refine goes_ Try.func13 (by kernel_rfl) rfl #[.slice Ao old.length co, .int .i64 x.f2] (by rfl) rfl rfl (by simp only [List.map_toArray, List.map_cons, List.map_nil]; rfl) ?_
                with_reducible refine (rows_Of.calls (old.length + 1) Ao co old x.f2 _ _ _ _ (St.row_reads (HS.mv 9)).2.2 hco hofa).mono ?_
                rintro e w15 ⟨rfl, hb⟩
                refine ⟨_, rfl, ?_⟩
                have HS_ := HS.later hb
                clear HS hb
                have HS := HS_
                clear HS_
                refine hK.out _ _ ((HS.mv 2).cell 2) (fun hHeld => ?_)
                clear hK K
                refine norm_ (a' := ?_) ?_ ?_
                rotate_left
                · show Act.put _ (some 73) _ = _
                  simp only [Act.put, List.setIfInBounds_toArray, List.set_cons_zero, List.set_cons_succ, i64_w, i32_w]
                  rfl
                refine one_ (i := 7) (N := some 77) #[true, true, true, true, true, true, true, true, true, true, false, false] rfl rfl (by kernel_rfl) (by decide) (fun K hK => ?_)
                refine goes_ Try.func13 (by kernel_rfl) rfl #[.slice An new.length cn, .int .i64 x.f2] (by rfl) rfl rfl (by simp only [List.map_toArray, List.map_cons, List.map_nil]; rfl) ?_
                with_reducible refine (rows_Of.calls (new.length + 1) An cn new x.f2 _ _ _ _ (St.row_reads (HS.mv 10)).2.2 hcn hofb).mono ?_
                rintro e w15 ⟨rfl, hb⟩
                refine ⟨_, rfl, ?_⟩
                have HS_ := HS.later hb
                clear HS hb
                have HS := HS_
                clear HS_
                refine hK.out _ _ ((HS.mv 2).cell 2) (fun hHeld => ?_)
                clear hK K
                refine norm_ (a' := ?_) ?_ ?_
                rotate_left
                · show Act.put _ (some 77) _ = _
                  simp only [Act.put, List.setIfInBounds_toArray, List.set_cons_zero, List.set_cons_succ, i64_w, i32_w]
                  rfl
                exact norm_ (by simp only [putAll, Act.put, List.setIfInBounds_toArray, List.set_cons_zero, List.set_cons_succ]) (hCont (g8, g9) _ HS)
          rintro ⟨ga, gb⟩ w15 HS_
          clear HS
          have HS := HS_
          clear HS_
          have hHeld := (HS.mv 2).cell 2
          refine norm_ (a' := ?_) ?_ ?_
          rotate_left
          · simp only [putAll, Act.put, List.setIfInBounds_toArray, List.set_cons_zero, List.set_cons_succ]
            rfl
          refine one_ (i := 10) (N := none) #[true, true, true, true, true, true, true, true, true, true, true, false] rfl rfl (by kernel_rfl) (by decide) (fun K hK => ?_)
          refine ev_store_step (by rfl) rfl 36 (.tmp 14) (.tmp 73) rfl HS rfl rfl (seg := [.int .i64 va.f0, .int .i64 va.f1, .string va.f2]) rfl ?ht rfl ?hf ?_
          case ht => kernel_rfl
          case hf => simp
          intro w16 HS_
          clear HS
          have HS := HS_
          clear HS_
          refine hK.out _ _ ((HS.mv 2).cell 2) (fun hHeld => ?_)
          clear hK K
          refine one_ (i := 11) (N := none) #[true, true, true, true, true, true, true, true, true, true, true, true] rfl rfl (by kernel_rfl) (by decide) (fun K hK => ?_)
          refine ev_store_step (by rfl) rfl 36 (.tmp 15) (.tmp 77) rfl (HS.mv 1) rfl rfl (seg := [.int .i64 vb.f0, .int .i64 vb.f1, .string vb.f2]) rfl ?ht rfl ?hf ?_
          case ht => kernel_rfl
          case hf => simp
          intro w20 HS_
          clear HS
          have HS := HS_
          clear HS_
          refine hK.out _ _ ((HS.mv 2).cell 2) (fun hHeld => ?_)
          clear hK K
          refine done_ (by kernel_rfl) ?_
          clear hHeld hofa hofb
          go_upto_region 16 with (fail)
          go_cut [90] (fun v90 wc => v90 = .bool c ∧ St w S wc [HP.obj gb 36 [.int .i64 vb.f0, .int .i64 vb.f1, .string vb.f2], HP.obj ga 36 [.int .i64 va.f0, .int .i64 va.f1, .string va.f2], HP.obj xb 87 [.int .i64 x.f0, .string x.f1, .int .i64 x.f2, .bool x.f3, .int .i64 x.f4], HP.obj lb 52 [u], HP.row kW 66 u L, HP.obj kb 36 [.int .i64 kv.f0, .int .i64 kv.f1, .string kv.f2], HP.obj tb 58 [.int .i64 tid, .string nm, .slice (some ⟨gc, 0, none⟩) cols.length cc, .slice (some ⟨gi, 0, none⟩) idx.length ci, uk], HP.row kL 83 (.slice (some ⟨gc, 0, none⟩) cols.length cc) cols, HP.row kI 87 (.slice (some ⟨gi, 0, none⟩) idx.length ci) idx, HP.row kC 73 (.slice Ao old.length co) old, HP.row kC 73 (.slice An new.length cn) new])
          case first =>
            have h_c := HC.out
            have q_ga_0 : w20.cell? ⟨ga, 0, none⟩ = some (.int .i64 va.f0) := (HS.mv 1).cell 0
            have q_ga_1 : w20.cell? ⟨ga, 1, none⟩ = some (.int .i64 va.f1) := (HS.mv 1).cell 1
            have q_ga_2 : w20.cell? ⟨ga, 2, none⟩ = some (.string va.f2) := (HS.mv 1).cell 2
            have q_gb_0 : w20.cell? ⟨gb, 0, none⟩ = some (.int .i64 vb.f0) := HS.cell 0
            have q_gb_1 : w20.cell? ⟨gb, 1, none⟩ = some (.int .i64 vb.f1) := HS.cell 1
            have q_gb_2 : w20.cell? ⟨gb, 2, none⟩ = some (.string vb.f2) := HS.cell 2
            have q_xb_4 : w20.cell? ⟨xb, 4, none⟩ = some (.int .i64 x.f4) := (HS.mv 2).cell 4
            by_cases ho : 0 < old.length
            · have hob : decide ((old.length : Int) > 0) = true := decide_eq_true (by omega)
              by_cases hn0 : new.length ≤ 0
              · have hnb : ((new.length : Int) == 0) = true := by rw [beq_iff_eq]; omega
                rw [decide_eq_true ⟨ho, .inl (by omega)⟩] at h_c
                subst h_c
                go_wp2
                go_meet
                exact ⟨rfl, HS⟩
              · have hnb : ((new.length : Int) == 0) = false := by rw [beq_eq_false_iff_ne]; omega
                by_cases hv : va = vb
                · have hvb_ : (va.f0 == vb.f0 && (va.f1 == vb.f1 && (va.f2.toList == vb.f2.toList))) = true := by rw [v_beq]; exact decide_eq_true hv
                  rw [decide_eq_false (fun h => by rcases h.2 with h | h; exact hn0 (by omega); exact h hv)] at h_c
                  subst h_c
                  clear hv
                  go_wp2
                  go_meet
                  exact ⟨rfl, HS⟩
                · have hvb_ : (va.f0 == vb.f0 && (va.f1 == vb.f1 && (va.f2.toList == vb.f2.toList))) = false := by rw [v_beq]; exact decide_eq_false hv
                  rw [decide_eq_true ⟨ho, .inr hv⟩] at h_c
                  subst h_c
                  clear hv
                  go_wp2
                  go_meet
                  exact ⟨rfl, HS⟩
            · have hob : decide ((old.length : Int) > 0) = false := decide_eq_false (by omega)
              rw [decide_eq_false (fun h => ho h.1)] at h_c
              subst h_c
              go_wp2
              go_meet
              exact ⟨rfl, HS⟩
          case rest =>
            clear HS
            obtain ⟨rfl, HS⟩ := hcut
            go_upto_if 90 with (fail)
            go_cut [] (fun wc => ∃ u2 : Value, St w S wc [HP.obj gb 36 [.int .i64 vb.f0, .int .i64 vb.f1, .string vb.f2], HP.obj ga 36 [.int .i64 va.f0, .int .i64 va.f1, .string va.f2], HP.obj xb 87 [.int .i64 x.f0, .string x.f1, .int .i64 x.f2, .bool x.f3, .int .i64 x.f4], HP.obj lb 52 [u2], HP.row kW 66 u2 (L ++ cond c [⟨entryK x.f0 va kv, ⟨#[]⟩, true⟩] []), HP.obj kb 36 [.int .i64 kv.f0, .int .i64 kv.f1, .string kv.f2], HP.obj tb 58 [.int .i64 tid, .string nm, .slice (some ⟨gc, 0, none⟩) cols.length cc, .slice (some ⟨gi, 0, none⟩) idx.length ci, uk], HP.row kL 83 (.slice (some ⟨gc, 0, none⟩) cols.length cc) cols, HP.row kI 87 (.slice (some ⟨gi, 0, none⟩) idx.length ci) idx, HP.row kC 73 (.slice Ao old.length co) old, HP.row kC 73 (.slice An new.length cn) new])
            case first =>
              cases c
              · go_wp2
                go_meet
                exact ⟨u, by simpa using HS⟩
              · have q_ga_0 : wc.cell? ⟨ga, 0, none⟩ = some (.int .i64 va.f0) := (HS.mv 1).cell 0
                have q_ga_1 : wc.cell? ⟨ga, 1, none⟩ = some (.int .i64 va.f1) := (HS.mv 1).cell 1
                have q_ga_2 : wc.cell? ⟨ga, 2, none⟩ = some (.string va.f2) := (HS.mv 1).cell 2
                have q_gb_0 : wc.cell? ⟨gb, 0, none⟩ = some (.int .i64 vb.f0) := HS.cell 0
                have q_gb_1 : wc.cell? ⟨gb, 1, none⟩ = some (.int .i64 vb.f1) := HS.cell 1
                have q_gb_2 : wc.cell? ⟨gb, 2, none⟩ = some (.string vb.f2) := HS.cell 2
                have q_xb_0 : wc.cell? ⟨xb, 0, none⟩ = some (.int .i64 x.f0) := (HS.mv 2).cell 0
                have q_xb_4 : wc.cell? ⟨xb, 4, none⟩ = some (.int .i64 x.f4) := (HS.mv 2).cell 4
                have q_kb_0 : wc.cell? ⟨kb, 0, none⟩ = some (.int .i64 kv.f0) := (HS.mv 5).cell 0
                have q_kb_1 : wc.cell? ⟨kb, 1, none⟩ = some (.int .i64 kv.f1) := (HS.mv 5).cell 1
                have q_kb_2 : wc.cell? ⟨kb, 2, none⟩ = some (.string kv.f2) := (HS.mv 5).cell 2
                go_wp2_with fail
                refine (rows_Entry.calls 300 x.f0 va.f0 va.f1 va.f2 kv.f0 kv.f1 kv.f2 _ _ (entry_eq x.f0 va kv hx64 ha64 hk64)).mono ?_
                rintro e_ w30a ⟨rfl, hb⟩
                have HS_ := HS.later hb
                clear HS hb
                have HS := HS_
                clear HS_
                clear q_ga_0 q_ga_1 q_ga_2 q_gb_0 q_gb_1 q_gb_2 q_xb_0 q_xb_4 q_kb_0 q_kb_1 q_kb_2
                have HQ := (HS.mv 3).mv 4
                have HQ2 := HQ.mv 1
                clear HQ HS
                go_wp2_with fail
                refine ((put_fun lb u L (entryK x.f0 va kv) ⟨#[]⟩ true (by first | omega | (simp only [List.length_append, List.length_singleton]; omega))).call (F := [HP.obj gb 36 [.int .i64 vb.f0, .int .i64 vb.f1, .string vb.f2], HP.obj ga 36 [.int .i64 va.f0, .int .i64 va.f1, .string va.f2], HP.obj xb 87 [.int .i64 x.f0, .string x.f1, .int .i64 x.f2, .bool x.f3, .int .i64 x.f4], HP.obj kb 36 [.int .i64 kv.f0, .int .i64 kv.f1, .string kv.f2], HP.obj tb 58 [.int .i64 tid, .string nm, .slice (some ⟨gc, 0, none⟩) cols.length cc, .slice (some ⟨gi, 0, none⟩) idx.length ci, uk], HP.row kL 83 (.slice (some ⟨gc, 0, none⟩) cols.length cc) cols, HP.row kI 87 (.slice (some ⟨gi, 0, none⟩) idx.length ci) idx, HP.row kC 73 (.slice Ao old.length co) old, HP.row kC 73 (.slice An new.length cn) new]) HQ2 (fun _ _ _ _ => trivial)).mono ?_
                rintro e_ w30 ⟨vq, rfl, Hq⟩
                obtain ⟨uw30, Hr⟩ := St.ex_ Hq
                obtain ⟨hvq, Hs⟩ := St.and_ Hr
                subst hvq
                have HS := St.star_ Hs
                clear Hq Hr Hs HQ2
                go_wp2
                go_meet
                exact ⟨_, (((((((((((HS.mv 10).mv 10).mv 10).mv 10).mv 10).mv 10).mv 7).mv 7).mv 10).mv 10).mv 10)⟩
            case rest =>
              clear HS
              obtain ⟨u2, HS⟩ := hcut
              obtain ⟨L2, hL2⟩ : ∃ L2, (L ++ cond c [⟨entryK x.f0 va kv, ⟨#[]⟩, true⟩] []) = L2 := ⟨_, rfl⟩
              have hlen2 : L2.length ≤ 900001 := by rw [← hL2]; cases c <;> simp <;> omega
              rw [hL2] at HS
              have HL2 := Aside0.mk hL2
              clear hL2
              go_upto_region 18 with (fail)
              go_cut [110] (fun v110 wc => v110 = .bool d ∧ St w S wc [HP.obj gb 36 [.int .i64 vb.f0, .int .i64 vb.f1, .string vb.f2], HP.obj ga 36 [.int .i64 va.f0, .int .i64 va.f1, .string va.f2], HP.obj xb 87 [.int .i64 x.f0, .string x.f1, .int .i64 x.f2, .bool x.f3, .int .i64 x.f4], HP.obj lb 52 [u2], HP.row kW 66 u2 L2, HP.obj kb 36 [.int .i64 kv.f0, .int .i64 kv.f1, .string kv.f2], HP.obj tb 58 [.int .i64 tid, .string nm, .slice (some ⟨gc, 0, none⟩) cols.length cc, .slice (some ⟨gi, 0, none⟩) idx.length ci, uk], HP.row kL 83 (.slice (some ⟨gc, 0, none⟩) cols.length cc) cols, HP.row kI 87 (.slice (some ⟨gi, 0, none⟩) idx.length ci) idx, HP.row kC 73 (.slice Ao old.length co) old, HP.row kC 73 (.slice An new.length cn) new])
              case first =>
                have h_d := HD.out
                have q_ga_0 : wc.cell? ⟨ga, 0, none⟩ = some (.int .i64 va.f0) := (HS.mv 1).cell 0
                have q_ga_1 : wc.cell? ⟨ga, 1, none⟩ = some (.int .i64 va.f1) := (HS.mv 1).cell 1
                have q_ga_2 : wc.cell? ⟨ga, 2, none⟩ = some (.string va.f2) := (HS.mv 1).cell 2
                have q_gb_0 : wc.cell? ⟨gb, 0, none⟩ = some (.int .i64 vb.f0) := HS.cell 0
                have q_gb_1 : wc.cell? ⟨gb, 1, none⟩ = some (.int .i64 vb.f1) := HS.cell 1
                have q_gb_2 : wc.cell? ⟨gb, 2, none⟩ = some (.string vb.f2) := HS.cell 2
                have q_xb_4 : wc.cell? ⟨xb, 4, none⟩ = some (.int .i64 x.f4) := (HS.mv 2).cell 4
                by_cases hn0 : 0 < new.length
                · have hng : decide ((new.length : Int) > 0) = true := decide_eq_true (by omega)
                  by_cases hs2 : x.f4 = 2
                  · have hs2b : (x.f4 == 2) = true := beq_iff_eq.2 hs2
                    rw [decide_eq_true ⟨hn0, .inl hs2⟩] at h_d
                    subst h_d
                    clear hs2
                    go_wp2
                    go_meet
                    exact ⟨rfl, HS⟩
                  · have hs2b : (x.f4 == 2) = false := beq_eq_false_iff_ne.2 hs2
                    by_cases hs3 : x.f4 = 3
                    · have hs3b : (x.f4 == 3) = true := beq_iff_eq.2 hs3
                      rw [decide_eq_true ⟨hn0, .inr hs3⟩] at h_d
                      subst h_d
                      clear hs2 hs3
                      go_wp2
                      go_meet
                      exact ⟨rfl, HS⟩
                    · have hs3b : (x.f4 == 3) = false := beq_eq_false_iff_ne.2 hs3
                      rw [decide_eq_false (fun h => by rcases h.2 with h | h; exact hs2 h; exact hs3 h)] at h_d
                      subst h_d
                      clear hs2 hs3
                      go_wp2
                      go_meet
                      exact ⟨rfl, HS⟩
                · have hng : decide ((new.length : Int) > 0) = false := decide_eq_false (by omega)
                  rw [decide_eq_false (fun h => hn0 h.1)] at h_d
                  subst h_d
                  go_wp2
                  go_meet
                  exact ⟨rfl, HS⟩
              case rest =>
                clear HS
                obtain ⟨rfl, HS⟩ := hcut
                cases d
                · try clear HC HD
                  go_wp2
                  go_roundw
                  case rel => exact ⟨j + 1, u2, by omega, by go_num, by rw [HNX.out, HST.out, ← List.append_assoc, HL2.out]; rw [show ∀ l : List Wr, L2 ++ cond false l [] = L2 from fun _ => List.append_nil _]; exact (((HS.out 0).out 0).out 0)⟩
                  case measure => simp [intOf]; omega
                · try clear HC HD
                  have q_ga_0 : wc.cell? ⟨ga, 0, none⟩ = some (.int .i64 va.f0) := (HS.mv 1).cell 0
                  have q_ga_1 : wc.cell? ⟨ga, 1, none⟩ = some (.int .i64 va.f1) := (HS.mv 1).cell 1
                  have q_ga_2 : wc.cell? ⟨ga, 2, none⟩ = some (.string va.f2) := (HS.mv 1).cell 2
                  have q_gb_0 : wc.cell? ⟨gb, 0, none⟩ = some (.int .i64 vb.f0) := HS.cell 0
                  have q_gb_1 : wc.cell? ⟨gb, 1, none⟩ = some (.int .i64 vb.f1) := HS.cell 1
                  have q_gb_2 : wc.cell? ⟨gb, 2, none⟩ = some (.string vb.f2) := HS.cell 2
                  have q_xb_0 : wc.cell? ⟨xb, 0, none⟩ = some (.int .i64 x.f0) := (HS.mv 2).cell 0
                  have q_xb_4 : wc.cell? ⟨xb, 4, none⟩ = some (.int .i64 x.f4) := (HS.mv 2).cell 4
                  have q_kb_0 : wc.cell? ⟨kb, 0, none⟩ = some (.int .i64 kv.f0) := (HS.mv 5).cell 0
                  have q_kb_1 : wc.cell? ⟨kb, 1, none⟩ = some (.int .i64 kv.f1) := (HS.mv 5).cell 1
                  have q_kb_2 : wc.cell? ⟨kb, 2, none⟩ = some (.string kv.f2) := (HS.mv 5).cell 2
                  go_wp2_with fail
                  refine (rows_Entry.calls 300 x.f0 vb.f0 vb.f1 vb.f2 kv.f0 kv.f1 kv.f2 _ _ (entry_eq x.f0 vb kv hx64 hb64 hk64)).mono ?_
                  rintro e_ w30a ⟨rfl, hb⟩
                  have HS_ := HS.later hb
                  clear HS hb
                  have HS := HS_
                  clear HS_
                  clear q_ga_0 q_ga_1 q_ga_2 q_gb_0 q_gb_1 q_gb_2 q_xb_0 q_xb_4 q_kb_0 q_kb_1 q_kb_2
                  have HQ := (HS.mv 3).mv 4
                  have HQ2 := HQ.mv 1
                  clear HQ HS
                  go_wp2_with fail
                  refine ((put_fun lb u2 L2 (entryK x.f0 vb kv) ⟨#[]⟩ false (by first | omega | (simp only [List.length_append, List.length_singleton]; omega))).call (F := [HP.obj gb 36 [.int .i64 vb.f0, .int .i64 vb.f1, .string vb.f2], HP.obj ga 36 [.int .i64 va.f0, .int .i64 va.f1, .string va.f2], HP.obj xb 87 [.int .i64 x.f0, .string x.f1, .int .i64 x.f2, .bool x.f3, .int .i64 x.f4], HP.obj kb 36 [.int .i64 kv.f0, .int .i64 kv.f1, .string kv.f2], HP.obj tb 58 [.int .i64 tid, .string nm, .slice (some ⟨gc, 0, none⟩) cols.length cc, .slice (some ⟨gi, 0, none⟩) idx.length ci, uk], HP.row kL 83 (.slice (some ⟨gc, 0, none⟩) cols.length cc) cols, HP.row kI 87 (.slice (some ⟨gi, 0, none⟩) idx.length ci) idx, HP.row kC 73 (.slice Ao old.length co) old, HP.row kC 73 (.slice An new.length cn) new]) HQ2 (fun _ _ _ _ => trivial)).mono ?_
                  rintro e_ w30 ⟨vq, rfl, Hq⟩
                  obtain ⟨uw30, Hr⟩ := St.ex_ Hq
                  obtain ⟨hvq, Hs⟩ := St.and_ Hr
                  subst hvq
                  have HS := St.star_ Hs
                  clear Hq Hr Hs HQ2
                  have HS_ := (((((((((((HS.mv 10).mv 10).mv 10).mv 10).mv 10).mv 10).mv 7).mv 7).mv 10).mv 10).mv 10)
                  clear HS
                  have HS := HS_
                  clear HS_
                  go_wp2
                  go_roundw
                  case rel => exact ⟨j + 1, _, by omega, by go_num, by rw [HNX.out, HST.out, ← List.append_assoc, HL2.out]; exact (((HS.out 0).out 0).out 0)⟩
                  case measure => simp [intOf]; omega
        · have hjj : j = idx.length := by omega
          subst hjj
          rw [List.take_length] at HS
          have q_lb_0 : wr.cell? ⟨lb, 0, none⟩ = some (u) := HS.cell 0
          go_wp2
          go_ret
          refine ⟨_, rfl, ?_⟩
          try rw [HCH.out]
          exact (((HS.out 0).out 1).out 1)
theorem wr_cells {w0 w : World} {S0 : Nat → Prop} {F : List HP} {g n c : Nat} {xs : List Wr} (h : St w0 S0 w (HP.row kW 66 (.slice (some ⟨g, 0, none⟩) n c) xs :: F)) (j : Nat) (hj : j < xs.length) :
    w.cell? ⟨g, j * 3, none⟩ = some (.string xs[j].key) ∧ w.cell? ⟨g, j * 3 + 1, none⟩ = some (.string xs[j].val) ∧ w.cell? ⟨g, j * 3 + 2, none⟩ = some (.bool xs[j].dead) := by
  have hf := fun i hi => flat_cell (enc := fun x : Wr => [.string x.key, .string x.val, .bool x.dead]) kW_open h j hj i hi
  exact ⟨hf 0 (by simp), hf 1 (by simp), hf 2 (by simp)⟩
end Go.Proofs.Ytkhbmamcbhjafaa.Keys
