/- lintelref20.Get, walked. -/
import Derived.Test.YtkhbmamcbhjafaaKeysGr
import Derived.Test.YtkhbmamcbhjafaaCellsW
import Derived.Deep.QuietTactic
import Derived.BigQuiet
namespace Go.Proofs.Ytkhbmamcbhjafaa.Keys
open Go.RowKit Go.Proofs.YtkhbmamcbhjafaaW.PrintWords Go.Proofs.YtkhbmamcbhjafaaW.PrintLast Go.Proofs.YtkhbmamcbhjafaaW.PrintMore Go.Proofs.Ytkhbmamcbhjafaa.Str Go.Proofs.Ytkhbmamcbhjafaa.PRef Go.Proofs.Ytkhbmamcbhjafaa.Stands Go.Proofs.Ytkhbmamcbhjafaa.Sl
set_option linter.unusedVariables false
set_option linter.unusedSimpArgs false
theorem refG_fuel : ∀ (k k' : Nat) (acc : List C) (l : List UInt8), l.length < k → l.length < k' → refG k acc l = refG k' acc l
  | 0, _, _, _, h, _ => by omega
  | _ + 1, 0, _, _, _, h => by omega
  | k + 1, k' + 1, acc, l, h, h' => by
    by_cases h0 : l = []
    · simp [refG, h0]
    · cases hs : step l with
      | none => simp [refG, h0, hs]
      | some p =>
        obtain ⟨a, b, q⟩ := p
        rw [refG_cons _ _ _ h0 _ _ _ hs, refG_cons _ _ _ h0 _ _ _ hs]
        have := step_short l a b q hs
        rw [refG_fuel k k' _ q (by omega) (by omega)]
def RG (acc : List C) (l : List UInt8) : Option (List C) := refG (l.length + 1) acc l
theorem RG_nil (acc : List C) : RG acc [] = some acc := by simp [RG, refG]
theorem RG_none (acc : List C) (l : List UInt8) (h0 : l ≠ []) (h : step l = none) : RG acc l = none := by simp [RG, refG, h0, h]
theorem RG_step (acc : List C) (l : List UInt8) (h0 : l ≠ []) (a b : V) (q : List UInt8) (h : step l = some (a, b, q)) : RG acc l = if a.f0 = 1 ∧ 1 ≤ a.f1 ∧ (0 < acc.length → lastC 0 acc < a.f1) then RG (acc ++ [⟨a.f1, b⟩]) q else none := by
  unfold RG
  rw [refG_cons _ _ _ h0 _ _ _ h]
  have := step_short l a b q h
  rw [refG_fuel l.length (q.length + 1) _ q (by omega) (by omega)]
theorem get_RG (s : ByteArray) : get s = match RG [] s.toList with
    | some l => (l, 0)
    | none => ([], 100) := by
  unfold get RG
  rw [size_toList]
  rfl
theorem step_drop (s : ByteArray) (i : Nat) (b : UInt8) (h0 : i < s.size) (hb : s[i] = b) (hn : i + 1 + b.toNat ≤ s.size) : step (s.toList.drop i) = (match (decode (s.extract (i + 1) (i + 1 + b.toNat))).1 with
      | [x, y] => some (x, y, s.toList.drop (i + 1 + b.toNat))
      | _ => none) := by
  have hd : s.toList.drop i = b :: s.toList.drop (i + 1) := by rw [← hb]; exact drop_at s i h0
  have hl : (s.toList.drop (i + 1)).length = s.size - (i + 1) := by rw [List.length_drop, size_toList]
  have e1 : s.extract (i + 1) (i + 1 + b.toNat) = ⟨((s.toList.drop (i + 1)).take b.toNat).toArray⟩ := mk_ext _ _ (by rw [extract_mid, show i + 1 + b.toNat - (i + 1) = b.toNat by omega])
  rw [e1, hd]
  simp only [step]
  rw [if_pos (by omega), List.drop_drop]
  rfl
theorem step_dropn (s : ByteArray) (i : Nat) (b : UInt8) (h0 : i < s.size) (hb : s[i] = b) (hn : ¬ i + 1 + b.toNat ≤ s.size) : step (s.toList.drop i) = none := by
  have hd : s.toList.drop i = b :: s.toList.drop (i + 1) := by rw [← hb]; exact drop_at s i h0
  have hl : (s.toList.drop (i + 1)).length = s.size - (i + 1) := by rw [List.length_drop, size_toList]
  rw [hd]
  simp only [step]
  rw [if_neg (by omega)]
theorem first_cell {w0 W : World} {S0 : Nat → Prop} {F : List HP} {g n c : Nat} {x y : V} (H : St w0 S0 W (HP.row kV 36 (.slice (some ⟨g, 0, none⟩) n c) [x, y] :: F)) : W.cell? ⟨g, 0, none⟩ = some (.int .i64 x.f0) := by
  have hC := (St.row_reads H).2.2
  obtain ⟨a0, e0, h0, _⟩ := at_T36 hC 0 (by omega) (by simp)
  obtain rfl : a0 = ⟨g, 0, none⟩ := (Option.some.inj e0).symm
  exact h0
/-- The last cell's number. -/
theorem last_cell {w0 W : World} {S0 : Nat → Prop} {F : List HP} {g n c : Nat} {acc : List C} (H : St w0 S0 W (HP.row kC 73 (.slice (some ⟨g, 0, none⟩) n c) acc :: F)) (hp : 0 < acc.length) :
    W.cell? ⟨g, (acc.length - 1) * 4, none⟩ = some (.int .i64 (lastC 0 acc)) := by
  have hC := (St.row_reads H).2.2
  obtain ⟨a0, e0, h0, _⟩ := at_T73 hC ((acc.length - 1 : Nat) : Int) (by omega) (by omega)
  obtain rfl : a0 = ⟨g, 0, none⟩ := (Option.some.inj e0).symm
  have hadd : ∀ m : Nat, (⟨g, 0, none⟩ : Addr).add m = ⟨g, m, none⟩ := fun m => by
    unfold Addr.add
    split <;> simp_all
  rw [hadd, Int.toNat_natCast, rdc acc (acc.length - 1) (by omega)] at h0
  rw [h0]
  congr 2
  obtain ⟨m, c, rfl⟩ : ∃ m c, acc = m ++ [c] := ⟨acc.dropLast, acc.getLast (List.ne_nil_of_length_pos hp), (List.dropLast_concat_getLast _).symm⟩
  rw [lastC_snoc]
  simp
attribute [local go_sem ↓] Go.wp_at_zero Go.wp_at_succ
set_option maxHeartbeats 4000000 in
set_option maxRecDepth 10000 in
theorem ref_get_fun (s : ByteArray) (hs : s.size ≤ 100000) :
    Fun Try.prog 18 #[.string s] (fun _ => True) [] (fun v => [HP.ex fun u => HP.and (v = .tuple #[u, .int .i64 (get s).2]) (HP.row kC 73 u (get s).1)]) := by
  intro w S hS hR
  have H := St.start hS
  clear hS hR
  have hu36 := Try.underlying36
  have hu73 := Try.underlying73
  have hu75 := Try.underlying75
  have hu24 := Try.underlying24
  have HG := Aside0.mk (get_RG s)
  go_enter Try.func18, Try.ntmps18
  go_wp2
  go_loopw [4, 5] (fun v4 v5 w' => ∃ (acc : List C) (i : Nat), v5 = .int .i64 i ∧ i ≤ s.size ∧ acc.length ≤ i ∧ Aside0 (RG [] s.toList = RG acc (s.toList.drop i)) ∧ St w S w' [HP.row kC 73 v4 acc]) (fun _ v5 _ => s.size - (intOf v5).toNat)
  case atStart => exact ⟨[], 0, rfl, by omega, by simp, ⟨rfl⟩, H.nil_ _ _⟩
  case round =>
    obtain ⟨acc, i, rfl, his, hai, HP1, Hr⟩ := hrel
    obtain ⟨A4, c4, rfl, hc4, hC4⟩ := St.row_C Hr
    clear H hC4
    by_cases h0 : i < s.size
    · obtain ⟨b, hb⟩ : ∃ b : UInt8, s[i] = b := ⟨_, rfl⟩
      have hne : s.toList.drop i ≠ [] := by rw [drop_at s i h0]; simp
      have hx0 : ∀ h : (i : Int).toNat < s.size, ((s[(i : Int).toNat]'h).toNat : Int) = (b.toNat : Int) := fun h => by
        rw [← hb]; rfl
      have hx1 : ∀ h : i < s.size, ((s[i]'h).toNat : Int) = (b.toNat : Int) := fun h => by rw [← hb]
      have hub : b.toNat < 256 := b.toNat_lt
      have hlt : (i : Int) < (s.size : Int) := by omega
      have h0i : (0 : Int) ≤ (i : Int) := by omega
      have hw0 : IntKind.i64.wrap (b.toNat : Int) = (b.toNat : Int) := IntWalk.i64_in _ (by omega)
      have hw1 : IntKind.i64.wrap ((i : Int) + 1) = (i : Int) + 1 := IntWalk.i64_in _ (by omega)
      have hw2 : IntKind.i64.wrap ((i : Int) + 1 + (b.toNat : Int)) = (i : Int) + 1 + (b.toNat : Int) := IntWalk.i64_in _ (by omega)
      have hw3 : IntKind.i64.wrap (1 + (b.toNat : Int)) = 1 + (b.toNat : Int) := IntWalk.i64_in _ (by omega)
      have hw4 : IntKind.i64.wrap ((i : Int) + (1 + (b.toNat : Int))) = (i : Int) + (1 + (b.toNat : Int)) := IntWalk.i64_in _ (by omega)
      by_cases hn : i + 1 + b.toNat ≤ s.size
      · have hn' : ¬ (i : Int) + 1 + (b.toNat : Int) > (s.size : Int) := by omega
        have hn2 : (i : Int) + 1 + (b.toNat : Int) ≤ (s.size : Int) := by omega
        have hn3 : (i : Int) + 1 ≤ (i : Int) + 1 + (b.toNat : Int) := by omega
        have hn4 : ((i : Int) + 1 + (b.toNat : Int)).toNat = i + 1 + b.toNat := by omega
        have hn5 : ((i : Int) + 1).toNat = i + 1 := by omega
        have hn6 : (0 : Int) ≤ (i : Int) + 1 := by omega
        have hst := Aside0.mk (step_drop s i b h0 hb hn)
        have hte : (s.extract (i + 1) (i + 1 + b.toNat)).size ≤ 140737488351232 := by rw [← size_toList, extract_mid, List.length_take, List.length_drop, size_toList]; omega
        clear hb
        go_wp2_with fail
        generalize s.extract (i + 1) (i + 1 + b.toNat) = t1 at hst hte ⊢
        have hbad : ∀ l e, decode t1 = (l, e) → l.length ≠ 2 → get s = ([], 100) := by
          intro l e hd hl
          rw [HG.out, HP1.out, RG_none acc _ hne]
          rw [hst.out, hd]
          match l, hl with
          | [], _ => rfl
          | [_], _ => rfl
          | [_, _], h => exact absurd rfl h
          | _ :: _ :: _ :: _, _ => rfl
        obtain ⟨l, e, hd, hec, h8⟩ : ∃ l e, decode t1 = (l, e) ∧ ((e = 0 ∧ N64 l) ∨ (e = 20 ∧ l = [])) ∧ l.length ≤ 8 := by
          rcases decode_cases t1 with ⟨l, h1, h2, h3, h4⟩ | h1
          · exact ⟨l, 0, h1, .inl ⟨rfl, h3⟩, h4⟩
          · exact ⟨[], 20, h1, .inr ⟨rfl, rfl⟩, by simp⟩
        have hrd := ref_decode_eq t1 hte _ (Nat.le_refl _)
        rw [hd] at hrd
        refine (lintelref02_Decode.calls _ t1 l e wr hrd).mono ?_
        rintro x w2 ⟨u2, rfl, hR2, hb2⟩
        have H4 := Hr.made hR2 hb2
        obtain ⟨A5, c5, rfl, hc5, hC5⟩ := St.row_C H4
        clear hrd hR2 hb2 hC5 Hr hte
        by_cases hl2 : l.length = 2
        · obtain ⟨rfl, hn64⟩ : e = 0 ∧ N64 l := by
            rcases hec with h | ⟨_, rfl⟩
            · exact h
            · simp at hl2
          match l, hl2, hd, hn64, H4, hc5 with
          | [x, y], _, hd, hn64, H4, hc5 =>
            have hstep : step (s.toList.drop i) = some (x, y, s.toList.drop (i + 1 + b.toNat)) := by rw [hst.out, hd]
            have hP := Aside0.mk (RG_step acc _ hne x y _ hstep)
            clear hst hbad hec h8 hstep
            obtain ⟨g, cap, ev⟩ := St.row_form H4 (by simp)
            simp only [Value.slice.injEq] at ev
            obtain ⟨rfl, _, rfl⟩ := ev
            have hc0 := first_cell H4
            have hc1 := (two_cells H4).1
            by_cases hk1 : x.f0 = 1
            · have hk1b : (x.f0 != 1) = false := by simp [hk1]
              by_cases hk2 : 1 ≤ x.f1
              · have hk2b : decide (x.f1 < 1) = false := decide_eq_false (by omega)
                by_cases hp0 : 0 < acc.length
                · have hp0b : decide ((acc.length : Int) > 0) = true := decide_eq_true (by omega)
                  obtain ⟨g4, cap4, ev4⟩ := St.row_form (H4.mv 1) hp0
                  simp only [Value.slice.injEq] at ev4
                  obtain ⟨rfl, _, rfl⟩ := ev4
                  have hl4 := last_cell (H4.mv 1) hp0
                  have hw5 : IntKind.i64.wrap ((acc.length : Int) - 1) = (acc.length : Int) - 1 := IntWalk.i64_in _ (by omega)
                  have hn7 : ((acc.length : Int) - 1).toNat = acc.length - 1 := by omega
                  have hn8 : (0 : Int) ≤ (acc.length : Int) - 1 := by omega
                  have hn9 : (acc.length : Int) - 1 < (acc.length : Int) := by omega
                  by_cases hk3 : lastC 0 acc < x.f1
                  · have hk3b : decide (x.f1 ≤ lastC 0 acc) = false := decide_eq_false (by omega)
                    have hgo : RG [] s.toList = RG (acc ++ [(⟨x.f1, y⟩ : C)]) (s.toList.drop (i + 1 + b.toNat)) := by rw [HP1.out, hP.out, if_pos ⟨hk1, hk2, fun _ => hk3⟩]
                    have HGO := Aside0.mk hgo
                    have hacl : acc.length ≤ 100000 := by omega
                    clear hP hgo
                    go_wp2_with fail
                    go_quiet (fail)
                    generalize hq : World.drewN w2 _ = wq
                    have H5 : St w S wq [HP.row kV 36 (.slice (some ⟨g, 0, none⟩) [x, y].length c5) [x, y], HP.row kC 73 (.slice (some ⟨g4, 0, none⟩) acc.length c4) acc] := hq ▸ H4.drewN _
                    clear hq
                    go_wp2_with fail
                    go_region_held3 (fun w' => w'.cell? ⟨g, 1, none⟩ = some (.int .i64 x.f1) ∧ w'.cell? ⟨g, 3, none⟩ = some (.int .i64 y.f0) ∧ w'.cell? ⟨g, 4, none⟩ = some (.int .i64 y.f1) ∧ w'.cell? ⟨g, 5, none⟩ = some (.string y.f2))
                      (first | exact two_cells H5 | exact two_cells H5.drew | exact two_cells ((H5.drew.lit (d := kC) (e := 73) (xs := [(⟨x.f1, y⟩ : C)]) (inner := [.int .i64 x.f1, .int .i64 y.f0, .int .i64 y.f1, .string y.f2]) (c1_reps (k73_mkM _ _ _ (⟨x.f1, y⟩ : C)) rfl) (by simp)).mv 1) | exact two_cells (HX.mv 2))
                      (first
                        | (have HZ := (H5.drew.lit (d := kC) (e := 73) (xs := [(⟨x.f1, y⟩ : C)]) (inner := [.int .i64 x.f1, .int .i64 y.f0, .int .i64 y.f1, .string y.f2]) (c1_reps (k73_mkM _ _ _ (⟨x.f1, y⟩ : C)) rfl) (by simp)).mv 2; refine ev_rows_step kC flatC (by rfl) (.tmp 76) (.tmp 85) 24 73 _ 40 (by rfl) Try.underlying24 infoC rfl (by decide) (by omega) (.slice (some ⟨g4, 0, none⟩) acc.length c4) acc [(⟨x.f1, y⟩ : C)] _ _ (by rfl) (by rfl) HZ (St.row_reads (HZ.mv 1)).2.2 (by simp; omega) ?_; clear HZ; intro v47 w47 HX))
                    go_wp2
                    go_roundw
                    case rel => exact ⟨acc ++ [(⟨x.f1, y⟩ : C)], i + 1 + b.toNat, by go_num, by omega, by simp only [List.length_append, List.length_singleton]; omega, HGO, (HX.out 1).out 1⟩
                    case measure => simp [intOf]; omega
                  · have hk3b : decide (x.f1 ≤ lastC 0 acc) = true := decide_eq_true (by omega)
                    have hR : get s = ([], 100) := by rw [HG.out, HP1.out, hP.out, if_neg (fun h => hk3 (h.2.2 hp0))]
                    clear hP
                    generalize lastC 0 acc = la at hl4 hk3b hk3
                    go_wp2_with fail
                    go_quiet (fail)
                    go_wp2
                    go_ret2
                    refine ⟨_, rfl, St.ex_in (Value.slice none 0 0) ?_⟩
                    try rw [hR]
                    exact St.and_in rfl ((((H4.drewN _).out 0).out 0).nil_ _ _)
                · have hp0b : decide ((acc.length : Int) > 0) = false := decide_eq_false (by omega)
                  have hgo : RG [] s.toList = RG (acc ++ [(⟨x.f1, y⟩ : C)]) (s.toList.drop (i + 1 + b.toNat)) := by rw [HP1.out, hP.out, if_pos ⟨hk1, hk2, fun h => absurd h hp0⟩]
                  have HGO := Aside0.mk hgo
                  have hacl : acc.length ≤ 100000 := by omega
                  clear hP hgo
                  go_wp2_with fail
                  go_quiet (fail)
                  generalize hq : World.drewN w2 _ = wq
                  have H5 : St w S wq [HP.row kV 36 (.slice (some ⟨g, 0, none⟩) [x, y].length c5) [x, y], HP.row kC 73 (.slice A4 acc.length c4) acc] := hq ▸ H4.drewN _
                  clear hq
                  go_wp2_with fail
                  go_region_held3 (fun w' => w'.cell? ⟨g, 1, none⟩ = some (.int .i64 x.f1) ∧ w'.cell? ⟨g, 3, none⟩ = some (.int .i64 y.f0) ∧ w'.cell? ⟨g, 4, none⟩ = some (.int .i64 y.f1) ∧ w'.cell? ⟨g, 5, none⟩ = some (.string y.f2))
                    (first | exact two_cells H5 | exact two_cells H5.drew | exact two_cells ((H5.drew.lit (d := kC) (e := 73) (xs := [(⟨x.f1, y⟩ : C)]) (inner := [.int .i64 x.f1, .int .i64 y.f0, .int .i64 y.f1, .string y.f2]) (c1_reps (k73_mkM _ _ _ (⟨x.f1, y⟩ : C)) rfl) (by simp)).mv 1) | exact two_cells (HX.mv 2))
                    (first
                      | (have HZ := (H5.drew.lit (d := kC) (e := 73) (xs := [(⟨x.f1, y⟩ : C)]) (inner := [.int .i64 x.f1, .int .i64 y.f0, .int .i64 y.f1, .string y.f2]) (c1_reps (k73_mkM _ _ _ (⟨x.f1, y⟩ : C)) rfl) (by simp)).mv 2; refine ev_rows_step kC flatC (by rfl) (.tmp 76) (.tmp 85) 24 73 _ 40 (by rfl) Try.underlying24 infoC rfl (by decide) (by omega) (.slice A4 acc.length c4) acc [(⟨x.f1, y⟩ : C)] _ _ (by rfl) (by rfl) HZ (St.row_reads (HZ.mv 1)).2.2 (by simp; omega) ?_; clear HZ; intro v47 w47 HX))
                  go_wp2
                  go_roundw
                  case rel => exact ⟨acc ++ [(⟨x.f1, y⟩ : C)], i + 1 + b.toNat, by go_num, by omega, by simp only [List.length_append, List.length_singleton]; omega, HGO, (HX.out 1).out 1⟩
                  case measure => simp [intOf]; omega
              · have hk2b : decide (x.f1 < 1) = true := decide_eq_true (by omega)
                have hR : get s = ([], 100) := by rw [HG.out, HP1.out, hP.out, if_neg (fun h => hk2 h.2.1)]
                clear hP
                go_wp2_with fail
                go_quiet (fail)
                go_wp2
                go_ret2
                refine ⟨_, rfl, St.ex_in (Value.slice none 0 0) ?_⟩
                try rw [hR]
                exact St.and_in rfl ((((H4.drewN _).out 0).out 0).nil_ _ _)
            · have hk1b : (x.f0 != 1) = true := bne_iff_ne.2 hk1
              have hR : get s = ([], 100) := by rw [HG.out, HP1.out, hP.out, if_neg (fun h => hk1 h.1)]
              clear hP
              go_wp2_with fail
              go_quiet (fail)
              go_wp2
              go_ret2
              refine ⟨_, rfl, St.ex_in (Value.slice none 0 0) ?_⟩
              try rw [hR]
              exact St.and_in rfl ((((H4.drewN _).out 0).out 0).nil_ _ _)
        · have hR := hbad l e hd hl2
          have hl2' : ((l.length : Int) != 2) = true := bne_iff_ne.2 (by omega)
          clear hbad hst
          rcases hec with ⟨rfl, _⟩ | ⟨rfl, rfl⟩
          all_goals
            go_wp2_with fail
            go_quiet (fail)
            go_wp2
            go_ret2
            refine ⟨_, rfl, St.ex_in (Value.slice none 0 0) ?_⟩
            try rw [hR]
            exact St.and_in rfl ((((H4.drewN _).out 0).out 0).nil_ _ _)
      · have hn' : (i : Int) + 1 + (b.toNat : Int) > (s.size : Int) := by omega
        have hR : get s = ([], 100) := by rw [HG.out, HP1.out, RG_none acc _ hne (step_dropn s i b h0 hb hn)]
        clear hb
        go_wp2
        go_ret2
        refine ⟨_, rfl, St.ex_in (Value.slice none 0 0) ?_⟩
        try rw [hR]
        exact St.and_in rfl ((Hr.out 0).nil_ _ _)
    · obtain rfl : i = s.size := by omega
      have hR : get s = (acc, 0) := by rw [HG.out, HP1.out, drop_end s s.size (by omega), RG_nil]
      clear HP1
      go_wp2
      go_ret2
      refine ⟨_, rfl, St.ex_in (Value.slice A4 acc.length c4) ?_⟩
      try rw [hR]
      exact St.and_in rfl Hr
end Go.Proofs.Ytkhbmamcbhjafaa.Keys
