/- An agenda's calls: New, Len, Next walked. -/
import Derived.Test.YtiobcknobbimoaaAgQ
import Derived.Deep.QuietTactic
import Derived.BigQuiet
namespace Go.Proofs.Ytiobcknobbimoaa.Ag
open Go.RowKit Go.Proofs.YtiobcknobbimoaaW.PrintWords Go.Proofs.YtiobcknobbimoaaW.PrintLast Go.Proofs.YtiobcknobbimoaaW.PrintMore Go.Proofs.Ytiobcknobbimoaa.Sl
set_option linter.unusedVariables false
set_option linter.unusedSimpArgs false
theorem intKey : ∀ k : Int, MapKept.IsKey (.int .i64) (Value.int .i64 k) := fun _ => by first | trivial | exact rfl | simp [MapKept.IsKey]
theorem intInj : ∀ a b : Int, Value.int .i64 a = Value.int .i64 b → a = b := fun a b h => by injection h
def MI (mb : Nat) (m : List (Int × Nat)) : HP := Sl.map mb (.int .i64) (fun k : Int => Value.int .i64 k) (fun g : Nat => Value.pointer (some ⟨g, 0, none⟩)) m
/-- An agenda with the document's list. -/
def agS (ga : Nat) (L : List Th) (tn : Nat) : HP := HP.ex fun v : Value => HP.ex fun q : List It => HP.ex fun m : List (Int × Nat) => HP.ex fun mb : Nat => HP.ex fun L' : List It => HP.and (Ag q m L' L tn) (Sl.all [hS ga v (.map (some mb)) (.int .i64 (tn : Int)) q, MI mb m])
theorem agS_open {w0 w : World} {S0 : Nat → Prop} {F : List HP} {ga tn : Nat} {L : List Th} (h : St w0 S0 w (agS ga L tn :: F)) : ∃ v q m mb L', Ag q m L' L tn ∧ St w0 S0 w (hS ga v (.map (some mb)) (.int .i64 (tn : Int)) q :: MI mb m :: F) := by
  obtain ⟨v, h⟩ := St.ex_ h
  obtain ⟨q, h⟩ := St.ex_ h
  obtain ⟨m, h⟩ := St.ex_ h
  obtain ⟨mb, h⟩ := St.ex_ h
  obtain ⟨L', h⟩ := St.ex_ h
  obtain ⟨ha, h⟩ := St.and_ h
  exact ⟨v, q, m, mb, L', ha, h.all_⟩
theorem agS_shut {w0 w : World} {S0 : Nat → Prop} {F : List HP} {ga tn : Nat} {L : List Th} {v : Value} {q : List It} {m : List (Int × Nat)} {mb : Nat} {L' : List It} (ha : Ag q m L' L tn) (h : St w0 S0 w (hS ga v (.map (some mb)) (.int .i64 (tn : Int)) q :: MI mb m :: F)) : St w0 S0 w (agS ga L tn :: F) :=
  St.ex_in v (St.ex_in q (St.ex_in m (St.ex_in mb (St.ex_in L' (St.and_in ha (St.unall (L := [_, _]) h))))))
set_option maxHeartbeats 2000000 in
theorem new_fun : Fun Try.prog 10 #[] (fun _ => True) [] (fun r => [HP.ex fun ga : Nat => HP.and (r = .pointer (some ⟨ga, 0, none⟩)) (agS ga [] 0)]) := by
  intro w S hS_ hR
  have HS := (St.start hS_).map_made (.int .i64) (fun k : Int => Value.int .i64 k) (fun g : Nat => Value.pointer (some ⟨g, 0, none⟩)) intKey intInj
  clear hS_ hR
  have hmm := @run_makeMap Try.prog
  have hu53 := Try.underlying53
  have hu49 := Try.underlying49
  go_enter Try.func10, Try.ntmps10
  go_wp2_with ((with_reducible refine gate_dst (N := 3) rfl ?_); refine ev_box ?hg (N := 3) ?hd (cs := [.slice none 0 0, .map (some w.heap.size), .int .i64 0]) (t := 53) HS ?hr ?_; (case hd => rfl); (case hg => rfl); (case hr => first | (go_simp; done) | (go_simp; rfl)); intro ga w1 HS_ hg_; clear HS; have HS := HS_; clear HS_)
  clear hmm
  go_ret
  have H1 : St w S w1 [HP.obj ga 53 [.slice none 0 0, .map (some w.heap.size), .int .i64 ((0 : Nat) : Int)], MI w.heap.size []] := HS
  have H2 : St w S w1 [Sl.all (itemsH []), HP.obj ga 53 [.slice none 0 0, .map (some w.heap.size), .int .i64 ((0 : Nat) : Int)], MI w.heap.size []] := H1.idle
  have H3 : St w S w1 [rowP (.slice none 0 0) [], Sl.all (itemsH []), HP.obj ga 53 [.slice none 0 0, .map (some w.heap.size), .int .i64 ((0 : Nat) : Int)], MI w.heap.size []] := H2.nil_ kPt 56
  exact ⟨_, rfl, St.ex_in ga (St.and_in rfl (agS_shut ag_nil (hS_shut (H3.mv 2))))⟩
theorem len_ag (ga : Nat) (L : List Th) (tn : Nat) : FunV Try.prog 15 #[.pointer (some ⟨ga, 0, none⟩)] (fun _ => True) [agS ga L tn] (.int .i64 (L.length : Int)) [agS ga L tn] := by
  intro w S hS_ hR
  have HS := St.start hS_
  clear hS_ hR
  have hu53 := Try.underlying53
  have hu51 := Try.underlying51
  obtain ⟨v, q, m, mb, L', ha, H1⟩ := agS_open HS
  obtain ⟨A, c, rfl, hc⟩ := hS_slice H1
  have q0 := hS_cell H1
  have HL := Aside0.mk (ag_len ha)
  clear H1 ha
  go_enter Try.func15, Try.ntmps15
  go_wp2
  go_ret
  exact ⟨by rw [← HL.out]; rfl, HS⟩
def nextR (L : List Th) : Value := match nextL L with
  | some t => .tuple #[.int .i64 t.what, .int .i64 t.due, .bool true]
  | none => .tuple #[.int .i64 0, .int .i64 0, .bool false]
set_option maxHeartbeats 2000000 in
theorem next_ag (ga : Nat) (L : List Th) (tn : Nat) : FunV Try.prog 13 #[.pointer (some ⟨ga, 0, none⟩)] (fun _ => True) [agS ga L tn] (nextR L) [agS ga L tn] := by
  intro w S hS_ hR
  have HS := St.start hS_
  clear hS_ hR
  have hu53 := Try.underlying53
  have hu51 := Try.underlying51
  have hu55 := Try.underlying55
  have hu56 := Try.underlying56
  obtain ⟨v, q, m, mb, L', ha, H1⟩ := agS_open HS
  have H2 := hS_open H1
  obtain ⟨A, c, rfl, hc, hA⟩ := rowP_form (H2.mv 1)
  have q0 := hS_cell H1
  have hn := ag_next ha
  go_enter Try.func13, Try.ntmps13
  by_cases h0 : 0 < q.length
  · rw [if_pos h0] at hn
    obtain ⟨gr, rfl⟩ := hA h0
    have q1 := (rowP_cell (H2.mv 1) 0 h0).1
    obtain ⟨q2, q3, -, -⟩ := item_cells (H2.mv 2) 0 h0
    obtain ⟨x, hx⟩ : ∃ x, at_ q 0 = x := ⟨_, rfl⟩
    rw [hx] at q1 q2 q3 hn
    have HE : Aside0 (nextR L = .tuple #[.int .i64 x.what, .int .i64 x.due, .bool true]) := ⟨by unfold nextR; rw [hn]; rfl⟩
    have h0b : ((q.length : Int) == 0) = false := beq_eq_false_iff_ne.2 (by omega)
    have h0I : (0 : Int) < (q.length : Int) := by omega
    clear hn hx ha H1 H2 hA
    go_wp2_with fail
    go_quiet (fail)
    generalize hwq : World.drewN w _ = wq
    have H5 := hwq ▸ HS.drewN _
    clear hwq HS
    go_wp2
    go_ret3
    exact ⟨by rw [HE.out]; rfl, H5⟩
  · rw [if_neg h0] at hn
    have HE : Aside0 (nextR L = .tuple #[.int .i64 0, .int .i64 0, .bool false]) := ⟨by unfold nextR; rw [hn]⟩
    have h0b : ((q.length : Int) == 0) = true := beq_iff_eq.2 (by omega)
    clear hn ha H1 H2 hA
    go_wp2
    go_ret3
    exact ⟨by rw [HE.out]; rfl, HS⟩
end Go.Proofs.Ytiobcknobbimoaa.Ag
