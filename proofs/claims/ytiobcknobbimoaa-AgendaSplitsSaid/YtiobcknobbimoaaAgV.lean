/- An agenda's calls: Drop, Set, Pop walked. -/
import Derived.Test.YtiobcknobbimoaaAgW
namespace Go.Proofs.Ytiobcknobbimoaa.Ag
open Go.RowKit Go.Proofs.YtiobcknobbimoaaW.PrintWords Go.Proofs.YtiobcknobbimoaaW.PrintLast Go.Proofs.YtiobcknobbimoaaW.PrintMore Go.Proofs.Ytiobcknobbimoaa.Sl
set_option linter.unusedVariables false
set_option linter.unusedSimpArgs false
theorem zeroPt (w : World) : (zeroValue 56).run Try.prog w = .ok (.pointer none) w := by kernel_rfl
theorem look_mi {w0 w : World} {S0 : Nat → Prop} {F : List HP} {mb : Nat} {m : List (Int × Nat)} (h : St w0 S0 w (MI mb m :: F)) (k : Int) {o : Option Nat} (ho : mget m k = o) :
    (Instr.lookup 49 (.map (some mb)) (.int .i64 k) true).run Try.prog w = .ok (.tuple #[oval (fun g : Nat => Value.pointer (some ⟨g, 0, none⟩)) (.pointer none) o, .bool o.isSome]) w := by
  have := (St.map_look (P := Try.prog) (t := 49) (kt := 3) (et := 56) h Try.underlying49 Try.underlying3 k zeroPt).1
  rw [ho] at this
  exact this
set_option maxHeartbeats 4000000 in
set_option maxRecDepth 20000 in
theorem drop_ag (ga : Nat) (L : List Th) (tn : Nat) (k : Int) (hl : tn ≤ 10000) : FunV Try.prog 17 #[.pointer (some ⟨ga, 0, none⟩), .int .i64 k] (fun _ => True) [agS ga L tn] (.tuple #[]) [agS ga (dropL L k) tn] := by
  intro w S hS_ hR
  have HS := St.start hS_
  clear hS_ hR
  have hu53 := Try.underlying53
  have hu51 := Try.underlying51
  have hu55 := Try.underlying55
  have hu56 := Try.underlying56
  have hu49 := Try.underlying49
  obtain ⟨v, q, m, mb, L', ha, H1⟩ := agS_open HS
  have q0 : w.cell? ⟨ga, 1, none⟩ = some (.map (some mb)) := (hS_open H1).cell 1
  have HA := Aside0.mk ha
  cases hm : mget m k with
  | none =>
    have hlk := look_mi (H1.mv 1) k hm
    have HD := Aside0.mk (ag_absent ha k hm)
    clear H1 ha hm
    go_enter Try.func17, Try.ntmps17
    go_wp2
    go_end0
    exact ⟨rfl, by rw [HD.out]; exact HS⟩
  | some g =>
    obtain ⟨i, hi, hw, hg⟩ := ag_find ha hm
    have hlk : (Instr.lookup 49 (.map (some mb)) (.int .i64 k) true).run Try.prog w = .ok (.tuple #[.pointer (some ⟨g, 0, none⟩), .bool true]) w := look_mi (H1.mv 1) k hm
    have hql := ag_len ha
    have hLl := ha.len
    obtain ⟨n, hn⟩ : ∃ n, q.length = n + 1 := ⟨q.length - 1, by omega⟩
    have HN := Aside0.mk hn
    have HC := Aside0.mk (fun (w' : World) (F : List HP) (h : St w S w' (hS ga v (.map (some mb)) (.int .i64 (tn : Int)) q :: F)) => (show w'.cell? ⟨g, 3, none⟩ = some (.int .i64 (i : Int)) from by rw [← hg]; exact (item_cells ((hS_open h).mv 2) i hi).2.2.2))
    have HW := Aside0.mk (And.intro hw hg)
    have hq5 : q.length ≤ 100000 := by omega
    clear HS ha hm hw hg hql hLl hn
    go_enter Try.func17, Try.ntmps17
    go_wp2_with fail
    clear hlk
    refine start_ (n := 9) (S := fun w' => w'.cell? ⟨g, 3, none⟩ = some (.int .i64 (i : Int))) (ds := [8]) #[false, false, false, false, false, false, false, false, false] (by kernel_rfl) rfl rfl (HC.out _ _ H1.drew) (fun hHeld => ?_)
    refine pure_ (i := 0) (N := some 18) (v := ?_) (a' := ?_) #[true, false, false, false, false, false, false, false, false] rfl rfl (by kernel_rfl) (fun _ _ _ h => h) (Or.inl ⟨by rfl, ?_⟩) ?_ ?_
    rotate_left
    · intro w'
      go_simp
      with_reducible rfl
    rotate_left
    · simp only [Act.put, List.setIfInBounds_toArray, List.set_cons_zero, List.set_cons_succ, i64_w, i32_w]
      rfl
    refine pure_ (i := 1) (N := some 19) (v := ?_) (a' := ?_) #[true, true, false, false, false, false, false, false, false] rfl rfl (by kernel_rfl) (fun _ _ _ h => h) (Or.inl ⟨by rfl, ?_⟩) ?_ ?_
    rotate_left
    · intro w'
      go_simp
      with_reducible rfl
    rotate_left
    · simp only [Act.put, List.setIfInBounds_toArray, List.set_cons_zero, List.set_cons_succ, i64_w, i32_w]
      rfl
    refine pure_ (i := 2) (N := some 20) (v := ?_) (a' := ?_) #[true, true, true, false, false, false, false, false, false] rfl rfl (by kernel_rfl) (fun _ _ _ h => h) (Or.inl ⟨by rfl, ?_⟩) ?_ ?_
    rotate_left
    · intro w'
      go_simp
      with_reducible rfl
    rotate_left
    · simp only [Act.put, List.setIfInBounds_toArray, List.set_cons_zero, List.set_cons_succ, i64_w, i32_w]
      rfl
    refine pure_ (i := 3) (N := some 21) (v := ?_) (a' := ?_) #[true, true, true, true, false, false, false, false, false] rfl rfl (by kernel_rfl) (fun _ _ _ h => h) (Or.inl ⟨by rfl, ?_⟩) ?_ ?_
    rotate_left
    · intro w'
      go_simp
      with_reducible rfl
    rotate_left
    · simp only [Act.put, List.setIfInBounds_toArray, List.set_cons_zero, List.set_cons_succ, i64_w, i32_w]
      rfl
    refine pure_ (i := 4) (N := some 22) (v := ?_) (a' := ?_) #[true, true, true, true, true, false, false, false, false] rfl rfl (by kernel_rfl) (fun _ _ _ h => h) (Or.inl ⟨by rfl, ?_⟩) ?_ ?_
    rotate_left
    · intro w'
      go_simp
      with_reducible rfl
    rotate_left
    · simp only [Act.put, List.setIfInBounds_toArray, List.set_cons_zero, List.set_cons_succ, i64_w, i32_w]
      rfl
    refine pure_ (i := 5) (N := some 23) (v := ?_) (a' := ?_) #[true, true, true, true, true, true, false, false, false] rfl rfl (by kernel_rfl) (fun _ _ _ h => h) (Or.inl ⟨by rfl, ?_⟩) ?_ ?_
    rotate_left
    · intro w'
      go_simp
      with_reducible rfl
    rotate_left
    · simp only [Act.put, List.setIfInBounds_toArray, List.set_cons_zero, List.set_cons_succ, i64_w, i32_w]
      rfl
    refine pure_ (i := 6) (N := some 24) (v := ?_) (a' := ?_) #[true, true, true, true, true, true, true, false, false] rfl rfl (by kernel_rfl) (fun _ _ _ h => h) (Or.inl ⟨by rfl, ?_⟩) ?_ ?_
    rotate_left
    · intro w'
      go_simp
      with_reducible rfl
    rotate_left
    · simp only [Act.put, List.setIfInBounds_toArray, List.set_cons_zero, List.set_cons_succ, i64_w, i32_w]
      rfl
    refine take_ (i := 7) (N := some 25) (v := ?_) (a' := ?_) #[true, true, true, true, true, true, true, true, false] rfl rfl (by kernel_rfl) (fun _ _ _ h => h) (Or.inl ⟨by rfl, ?_⟩) hHeld ?_ ?_
    rotate_left
    · intro w' s0
      go_simp
      with_reducible rfl
    rotate_left
    · simp only [Act.put, List.setIfInBounds_toArray, List.set_cons_zero, List.set_cons_succ, i64_w, i32_w]
      rfl
    refine last_ (i := 8) (N := some 26) #[true, true, true, true, true, true, true, true, true] rfl rfl (by kernel_rfl) (by decide) (fun K hK => ?_)
    refine goes_ Try.func24 (by kernel_rfl) rfl #[.iface 59 (.pointer (some ⟨ga, 0, none⟩)), .int .i64 (i : Int)] (by rfl) rfl rfl (by simp only [List.map_toArray, List.map_cons, List.map_nil]; rfl) ?_
    refine ((remove_fun ga v (.map (some mb)) (.int .i64 (tn : Int)) q n i HN.out hi hq5 HA.out.heap).call (F := [MI mb m]) H1.drew (fun _ _ _ _ => trivial)).mono ?_
    rintro e_ w5 ⟨r, rfl, HS_⟩
    refine ⟨_, rfl, ?_⟩
    obtain ⟨v1, HS1⟩ := St.ex_ HS_
    obtain ⟨q1, HS2⟩ := St.ex_ HS1
    obtain ⟨⟨hr, hp, hh⟩, HS3⟩ := St.and_ HS2
    subst hr
    have HF := Aside0.mk (And.intro hp hh)
    have HS4 : St w S w5 [hS ga v1 (.map (some mb)) (.int .i64 (tn : Int)) q1, itemH n (at_ q i), MI mb m] := HS3.star_
    clear H1 HS_ HS1 HS2 HS3 hp hh
    refine hK.out _ _ ?_
    clear hK K
    refine norm_ (a' := ?_) ?_ ?_
    rotate_left
    · show Act.put _ (some 26) _ = _
      simp only [Act.put, List.setIfInBounds_toArray, List.set_cons_zero, List.set_cons_succ, i64_w, i32_w]
      rfl
    refine done_ (by kernel_rfl) ?_
    try clear hHeld
    have p0 : w5.cell? ⟨ga, 1, none⟩ = some (.map (some mb)) := (hS_open HS4).cell 1
    obtain ⟨w6, hdel, H6⟩ := St.map_drop (P := Try.prog) (t := 49) (kt := 3) (HS4.mv 2) Try.underlying49 Try.underlying3 0 k
    have hdel' : ∀ ty, (Builtin.delete_ #[49, 3] ty #[.map (some mb), .int .i64 k]).run Try.prog w5 = .ok (.tuple #[]) w6 := fun _ => hdel
    clear hdel HS4
    have HE : Aside0 (St w S w6 [agS ga (dropL L k) tn]) := ⟨by
      obtain ⟨L'', ha2⟩ := ag_drop HA.out i hi HF.out.1 HF.out.2
      rw [HW.out.1] at ha2
      exact agS_shut ha2 ((H6.out 2).mv 1)⟩
    clear H6
    go_wp2
    go_end0
    exact ⟨rfl, HE.out⟩
def popL (L : List Th) (now : Int) : List Th := match nextL L with
  | some t => if t.due > now then L else dropL L t.what
  | none => L
def popR (L : List Th) (now : Int) : Value := match nextL L with
  | some t => if t.due > now then .tuple #[.int .i64 0, .bool false] else .tuple #[.int .i64 t.what, .bool true]
  | none => .tuple #[.int .i64 0, .bool false]
set_option maxHeartbeats 4000000 in
set_option maxRecDepth 20000 in
theorem pop_ag (ga : Nat) (L : List Th) (tn : Nat) (now : Int) (hl : tn ≤ 10000) : FunV Try.prog 14 #[.pointer (some ⟨ga, 0, none⟩), .int .i64 now] (fun _ => True) [agS ga L tn] (popR L now) [agS ga (popL L now) tn] := by
  intro w S hS_ hR
  have HS := St.start hS_
  clear hS_ hR
  go_enter Try.func14, Try.ntmps14
  go_wp2_with fail
  refine ((next_ag ga L tn).call (F := []) HS (fun _ _ _ _ => trivial)).mono ?_
  rintro e_ w1 ⟨rfl, HS_⟩
  clear HS
  have HS : St w S w1 [agS ga L tn] := HS_
  clear HS_
  have HL : Aside0 (popL L now = match nextL L with | some t => if t.due > now then L else dropL L t.what | none => L) := ⟨rfl⟩
  have HR : Aside0 (popR L now = match nextL L with | some t => if t.due > now then .tuple #[.int .i64 0, .bool false] else .tuple #[.int .i64 t.what, .bool true] | none => .tuple #[.int .i64 0, .bool false]) := ⟨rfl⟩
  unfold nextR
  cases hn : nextL L with
  | none =>
    rw [hn] at HL HR
    have HL2 : Aside0 (popL L now = L) := ⟨HL.out⟩
    have HR2 : Aside0 (popR L now = .tuple #[.int .i64 0, .bool false]) := ⟨HR.out⟩
    clear HL HR hn
    go_wp2
    go_ret2
    exact ⟨by rw [HR2.out]; rfl, by rw [HL2.out]; exact HS⟩
  | some t =>
    rw [hn] at HL HR
    by_cases hd : t.due > now
    · have HL2 : Aside0 (popL L now = L) := ⟨by rw [HL.out]; exact if_pos hd⟩
      have HR2 : Aside0 (popR L now = .tuple #[.int .i64 0, .bool false]) := ⟨by rw [HR.out]; exact if_pos hd⟩
      have hdd : decide (t.due > now) = true := decide_eq_true hd
      clear HL HR hn hd
      go_wp2
      go_ret2
      exact ⟨by rw [HR2.out]; rfl, by rw [HL2.out]; exact HS⟩
    · have HL2 : Aside0 (popL L now = dropL L t.what) := ⟨by rw [HL.out]; exact if_neg hd⟩
      have HR2 : Aside0 (popR L now = .tuple #[.int .i64 t.what, .bool true]) := ⟨by rw [HR.out]; exact if_neg hd⟩
      have hdd : decide (t.due > now) = false := decide_eq_false hd
      clear HL HR hn hd
      go_wp2_with fail
      refine ((drop_ag ga L tn t.what hl).call (F := []) HS (fun _ _ _ _ => trivial)).mono ?_
      rintro e_ w2 ⟨rfl, HS_⟩
      clear HS
      go_wp2
      go_ret2
      exact ⟨by rw [HR2.out]; rfl, by rw [HL2.out]; exact HS_⟩
end Go.Proofs.Ytiobcknobbimoaa.Ag
