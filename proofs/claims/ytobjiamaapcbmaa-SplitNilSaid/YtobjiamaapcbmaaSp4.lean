import Derived.Test.YtobjiamaapcbmaaSp3
namespace Go.Proofs.Ytobjiamaapcbmaa.Sp
open Go.RowKit Go.Proofs.YtobjiamaapcbmaaW.PrintWords Go.Proofs.YtobjiamaapcbmaaW.PrintLast Go.Proofs.YtobjiamaapcbmaaW.PrintMore Go.Proofs.Ytobjiamaapcbmaa.Sl
set_option linter.unusedVariables false
set_option linter.unusedSimpArgs false
def okB (last : ByteArray) : List ByteArray → Bool
  | [] => true
  | b :: l => !leq b last && okB b l
def lastD (last : ByteArray) : List ByteArray → ByteArray
  | [] => last
  | b :: l => lastD b l
theorem okB_app (m : List ByteArray) : ∀ (l : List ByteArray) (last : ByteArray), okB last (l ++ m) = (okB last l && okB (lastD last l) m)
  | [], last => by simp [okB, lastD]
  | b :: l, last => by simp only [List.cons_append, okB, lastD, okB_app m l b, Bool.and_assoc]
theorem lastD_snoc (b : ByteArray) : ∀ (l : List ByteArray) (last : ByteArray), lastD last (l ++ [b]) = b
  | [], last => rfl
  | x :: l, last => lastD_snoc b l x
theorem okB_step (l : List ByteArray) (k : Nat) (hk : k < l.length) (last : ByteArray) : okB last (l.take (k + 1)) = (okB last (l.take k) && !leq (l.getD k ByteArray.empty) (lastD last (l.take k))) := by
  rw [take_one ByteArray.empty l k hk, okB_app]
  simp [okB]
theorem lastD_step (l : List ByteArray) (k : Nat) (hk : k < l.length) (last : ByteArray) : lastD last (l.take (k + 1)) = l.getD k ByteArray.empty := by
  rw [take_one ByteArray.empty l k hk, lastD_snoc]
theorem okB_of_take (l : List ByteArray) (k : Nat) (last : ByteArray) (h : okB last (l.take k) = false) : okB last l = false := by
  have := okB_app (l.drop k) (l.take k) last
  rw [List.take_append_drop] at this
  rw [this, h]; rfl
def newOk (l : List ByteArray) : Bool := decide (l.length < 4) && okB ByteArray.empty l
/-- A split: its block, its bounds. -/
def Split (g : Nat) (l : List ByteArray) : HP := HP.ex fun v => HP.star (HP.obj g 45 [v]) (HP.row Kd.string 9 v l)
def newPost (l : List ByteArray) (v : Value) : List HP :=
  if newOk l = true then [HP.ex fun g => HP.and (v = .tuple #[.pointer (some ⟨g, 0, none⟩), .int .i64 0]) (Split g l)] else [HP.pure (v = .tuple #[.pointer none, .int .i64 1])]
theorem newPost_yes {l : List ByteArray} (h : newOk l = true) (v : Value) : newPost l v = [HP.ex fun g => HP.and (v = .tuple #[.pointer (some ⟨g, 0, none⟩), .int .i64 0]) (Split g l)] := if_pos h
theorem newPost_no {l : List ByteArray} (h : newOk l = false) (v : Value) : newPost l v = [HP.pure (v = .tuple #[.pointer none, .int .i64 1])] := if_neg (by rw [h]; decide)

set_option maxHeartbeats 400000 in
theorem new_fun (A : Option Addr) (c : Nat) (l : List ByteArray) (hl : l.length * 16 ≤ 140737488355328) :
    Fun Try.prog 8 #[.slice A l.length c] (fun w => Kd.C Kd.string w A l.length l) [] (newPost l) := by
  intro w S hS hR
  have H := St.start hS
  have HR := Aside0.mk hR
  clear hS hR
  have hu45 := Try.underlying45
  by_cases h4 : l.length < 4
  · go_enter Try.func8, Try.ntmps8
    go_wp2
    go_loop [4, 12] (fun s i => ∃ k : Nat, k ≤ l.length ∧ i = .int .i64 k ∧ s = .string (lastD ByteArray.empty (l.take k)) ∧ Aside0 (okB ByteArray.empty (l.take k) = true)) (fun _ i => l.length - (intOf i).toNat)
    case atStart => exact ⟨0, Nat.zero_le _, rfl, rfl, ⟨rfl⟩⟩
    case round =>
      obtain ⟨k, hk, rfl, rfl, HO⟩ := hrel
      by_cases hlt : k < l.length
      · obtain ⟨ad, rfl, hx⟩ := Kd.at_string (HR.out w (Ext.refl _ _)) k (by omega) (by omega)
        have h1 := Aside0.mk (okB_step l k hlt ByteArray.empty)
        have h2 := Aside0.mk (lastD_step l k hlt ByteArray.empty)
        rw [Int.toNat_natCast] at hx
        change w.cell? _ = some (Value.string (l.getD k ByteArray.empty)) at hx
        generalize l.getD k ByteArray.empty = b at hx h1 h2
        generalize lastD ByteArray.empty (l.take k) = last at h1
        by_cases hb : leq b last = true
        · have hb' : (Op.bytesLess b.toList last.toList || b.toList == last.toList) = true := hb
          go_wp2
          go_ret2
          refine ⟨_, rfl, ?_⟩
          rw [newPost_no (by unfold newOk; rw [okB_of_take l (k + 1) _ (by rw [h1.out, hb]; simp)]; simp)]
          exact H.add rfl
        · have hb' : (Op.bytesLess b.toList last.toList || b.toList == last.toList) = false := by simpa [leq] using hb
          go_wp2
          go_round
          case rel => exact ⟨k + 1, by omega, by go_num, by rw [h2.out], ⟨by rw [h1.out, HO.out]; simpa using hb⟩⟩
          case measure => simp [intOf]; omega
      · have hok : newOk l = true := by
          have := HO.out
          rw [List.take_of_length_le (by omega)] at this
          unfold newOk
          rw [this]; simpa using h4
        go_wp2_with (first
          | (go_at_call 17; refine ((clone_fun A c l hl).call H (fun w' _ he _ => HR.out w' he)).mono ?_; rintro e w1 ⟨v1, rfl, H1⟩; obtain ⟨A1, c1, rfl, hc1, hC1⟩ := St.row_C H1)
          | ((with_reducible refine gate_dst (N := 24) rfl ?_); refine ev_box ?hg (N := 24) ?hd (cs := [.slice A1 l.length c1]) (t := 45) H1 ?hr ?_; (case hd => rfl); (case hg => rfl); (case hr => first | (go_simp; done) | (go_simp; rfl)); intro g w2 H2 hge))
        go_ret2
        refine ⟨_, rfl, ?_⟩
        rw [newPost_yes hok]
        exact St.ex_in g (St.and_in rfl (St.ex_in _ H2.unstar))
  · go_enter Try.func8, Try.ntmps8
    go_wp2
    go_ret2
    exact ⟨_, rfl, by rw [newPost_no (by unfold newOk; simp [h4])]; exact H.add rfl⟩
end Go.Proofs.Ytobjiamaapcbmaa.Sp
