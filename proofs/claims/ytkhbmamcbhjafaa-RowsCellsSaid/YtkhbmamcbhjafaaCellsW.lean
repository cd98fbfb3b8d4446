/- rows.Get, walked. -/
import Derived.Test.YtkhbmamcbhjafaaKeysW
import Derived.Test.YtkhbmamcbhjafaaCellsA
import Derived.Test.YtkhbmamcbhjafaaCellsE
import Derived.Test.YtkhbmamcbhjafaaSlAll
import Derived.Deep.DrawnRows
namespace Go.Proofs.Ytkhbmamcbhjafaa.Keys
open Go.RowKit Go.Proofs.YtkhbmamcbhjafaaW.PrintWords Go.Proofs.YtkhbmamcbhjafaaW.PrintLast Go.Proofs.YtkhbmamcbhjafaaW.PrintMore Go.Proofs.Ytkhbmamcbhjafaa.Str Go.Proofs.Ytkhbmamcbhjafaa.PRef Go.Proofs.Ytkhbmamcbhjafaa.Stands Go.Proofs.Ytkhbmamcbhjafaa.Sl
set_option linter.unusedVariables false
set_option linter.unusedSimpArgs false
theorem parse_fuel : ∀ (k k' : Nat) (acc : List C) (l : List UInt8), l.length < k → l.length < k' → parse k acc l = parse k' acc l
  | 0, _, _, _, h, _ => by omega
  | _ + 1, 0, _, _, _, h => by omega
  | k + 1, k' + 1, acc, l, h, h' => by
    by_cases h0 : l = []
    · simp [parse, h0]
    · cases hs : step l with
      | none => simp [parse, h0, hs]
      | some p =>
        obtain ⟨a, b, q⟩ := p
        rw [parse_cons _ _ _ h0 _ _ _ hs, parse_cons _ _ _ h0 _ _ _ hs]
        have := step_short l a b q hs
        exact parse_fuel k k' _ q (by omega) (by omega)
def P (acc : List C) (l : List UInt8) : Option (List C) := parse (l.length + 1) acc l
theorem P_nil (acc : List C) : P acc [] = some acc := by simp [P, parse]
theorem P_none (acc : List C) (l : List UInt8) (h0 : l ≠ []) (h : step l = none) : P acc l = none := by simp [P, parse, h0, h]
theorem P_step (acc : List C) (l : List UInt8) (h0 : l ≠ []) (a b : V) (q : List UInt8) (h : step l = some (a, b, q)) : P acc l = P (acc ++ [⟨a.f1, b⟩]) q := by
  unfold P
  rw [parse_cons _ _ _ h0 _ _ _ h]
  have := step_short l a b q h
  exact parse_fuel _ _ _ q (by omega) (by omega)
theorem get_P (s : ByteArray) : get s = match P [] s.toList with
    | some l => if put l = (s, 0) then (l, 0) else ([], 100)
    | none => ([], 100) := by
  rw [← get_eq]
  unfold get' P
  rw [size_toList]
  rfl
theorem extract_mid (s : ByteArray) (i j : Nat) : (s.extract i j).toList = (s.toList.drop i).take (j - i) := by
  simp [toList_eq, List.extract_eq_take_drop]
theorem step_at (t : ByteArray) (b : UInt8) (h0 : 0 < t.size) (hb : t[0] = b) (hn : 1 + b.toNat ≤ t.size) : step t.toList = (match (decode (t.extract 1 (1 + b.toNat))).1 with
      | [x, y] => some (x, y, t.toList.drop (1 + b.toNat))
      | _ => none) := by
  have hd : t.toList = b :: t.toList.drop 1 := by rw [← hb]; exact drop_at t 0 h0
  have hl : (t.toList.drop 1).length = t.size - 1 := by rw [List.length_drop, size_toList]
  have e1 : t.extract 1 (1 + b.toNat) = ⟨((t.toList.drop 1).take b.toNat).toArray⟩ := mk_ext _ _ (by rw [extract_mid, show 1 + b.toNat - 1 = b.toNat by omega])
  rw [e1]
  conv => lhs; rw [hd]
  simp only [step]
  rw [if_pos (by omega), List.drop_drop, Nat.add_comm 1]
  rfl
theorem step_over (t : ByteArray) (b : UInt8) (h0 : 0 < t.size) (hb : t[0] = b) (hn : ¬ 1 + b.toNat ≤ t.size) : step t.toList = none := by
  have hd : t.toList = b :: t.toList.drop 1 := by rw [← hb]; exact drop_at t 0 h0
  have hl : (t.toList.drop 1).length = t.size - 1 := by rw [List.length_drop, size_toList]
  rw [hd]
  simp only [step]
  rw [if_neg (by omega)]
theorem two_cells {w0 W : World} {S0 : Nat → Prop} {F : List HP} {g n c : Nat} {x y : V} (H : St w0 S0 W (HP.row kV 36 (.slice (some ⟨g, 0, none⟩) n c) [x, y] :: F)) :
    W.cell? ⟨g, 1, none⟩ = some (.int .i64 x.f1) ∧ W.cell? ⟨g, 3, none⟩ = some (.int .i64 y.f0) ∧ W.cell? ⟨g, 4, none⟩ = some (.int .i64 y.f1) ∧ W.cell? ⟨g, 5, none⟩ = some (.string y.f2) := by
  have hC := (St.row_reads H).2.2
  obtain ⟨a0, e0, _, h1, _⟩ := at_T36 hC 0 (by omega) (by simp)
  obtain ⟨a1, e1, h3, h4, h5⟩ := at_T36 hC 1 (by omega) (by simp)
  obtain rfl : a0 = ⟨g, 0, none⟩ := (Option.some.inj e0).symm
  obtain rfl : a1 = ⟨g, 0, none⟩ := (Option.some.inj e1).symm
  exact ⟨h1, h3, h4, h5⟩
theorem c1_reps {α : Type} {R : α → List Value → Prop} {n : Nat} {x : α} {cs : List Value} (h : R x cs) (hl : cs.length = n) : Reps R n [x] cs := by
  have := (Reps.none R n).snoc h hl
  simpa using this
attribute [local go_sem ↓] Go.wp_at_zero Go.wp_at_succ
set_option maxHeartbeats 2000000 in
set_option maxRecDepth 10000 in
theorem get_fun (s : ByteArray) (hs : s.size ≤ 100000) :
    Fun Try.prog 16 #[.string s] (fun _ => True) [] (fun v => [HP.ex fun u => HP.and (v = .tuple #[u, .int .i64 (get s).2]) (HP.row kC 73 u (get s).1)]) := by
  intro w S hS hR
  have H := St.start hS
  clear hS hR
  have hu36 := Try.underlying36
  have hu73 := Try.underlying73
  have hu75 := Try.underlying75
  have hu24 := Try.underlying24
  have HG := Aside0.mk (get_P s)
  go_enter Try.func16, Try.ntmps16
  go_wp2
  go_loopw [4, 5] (fun v4 v5 w' => ∃ (acc : List C) (t : ByteArray), v5 = .string t ∧ t.size ≤ s.size ∧ acc.length + t.size ≤ s.size ∧ Aside0 (P [] s.toList = P acc t.toList) ∧ Aside0 (C64 acc) ∧ St w S w' [HP.row kC 73 v4 acc]) (fun _ v5 _ => match v5 with | .string t => t.size | _ => 0)
  case atStart => exact ⟨[], s, rfl, Nat.le_refl _, by simp, ⟨rfl⟩, ⟨fun c hc => by simp at hc⟩, H.nil_ _ _⟩
  case round =>
    obtain ⟨acc, t, rfl, hts, hat, HP1, H6, Hr⟩ := hrel
    clear H
    by_cases h0 : 0 < t.size
    · have hne : t.toList ≠ [] := by intro h; have := size_toList t; rw [h] at this; simp at this; omega
      obtain ⟨b, hb⟩ : ∃ b : UInt8, t[0] = b := ⟨_, rfl⟩
      have hx0 : ∀ h : 0 < t.size, ((t[0]'h).toNat : Int) = (b.toNat : Int) := fun h => by rw [← hb]
      have hub : b.toNat < 256 := b.toNat_lt
      have hq0 : (0 < (t.size : Int)) = True := eq_true (by omega)
      have hq1 : (0 < t.size) = True := eq_true h0
      have hw0 : IntKind.i64.wrap (b.toNat : Int) = (b.toNat : Int) := IntWalk.i64_in _ (by omega)
      have hw1 : IntKind.i64.wrap (1 + (b.toNat : Int)) = 1 + (b.toNat : Int) := IntWalk.i64_in _ (by omega)
      by_cases hn : 1 + b.toNat ≤ t.size
      · have hn' : ¬ (b.toNat : Int) ≥ (t.size : Int) := by omega
        have hn2 : 1 + (b.toNat : Int) ≤ (t.size : Int) := by omega
        have hn3 : (1 : Int) ≤ 1 + (b.toNat : Int) := by omega
        have hn4 : (1 + (b.toNat : Int)).toNat = 1 + b.toNat := by omega
        have hn5 : (0 : Int) ≤ 1 + (b.toNat : Int) := by omega
        have hst := Aside0.mk (step_at t b h0 hb hn)
        have hte : (t.extract 1 (1 + b.toNat)).size ≤ 140737488351232 := by rw [← size_toList, extract_mid, List.length_take, List.length_drop, size_toList]; omega
        clear hb
        go_wp2_with fail
        have hlen1 : (t.toList.drop (1 + b.toNat)).length + 1 ≤ t.size := by rw [List.length_drop, size_toList]; omega
        have hrest : (t.extract (1 + b.toNat) t.size).toList = t.toList.drop (1 + b.toNat) := extract_toList t _ hn
        have hrsz : (t.extract (1 + b.toNat) t.size).size + 1 ≤ t.size := by rw [← size_toList, hrest]; exact hlen1
        generalize t.extract 1 (1 + b.toNat) = t1 at hst hte ⊢
        have hbad : ∀ l e, decode t1 = (l, e) → l.length ≠ 2 → get s = ([], 100) := by
          intro l e hd hl
          rw [HG.out, HP1.out, P_none acc _ hne]
          rw [hst.out, hd]
          match l, hl with
          | [], _ => rfl
          | [_], _ => rfl
          | [_, _], h => exact absurd rfl h
          | _ :: _ :: _ :: _, _ => rfl
        obtain ⟨l, e, hd, hec, h8⟩ : ∃ l e, decode t1 = (l, e) ∧ ((e = 0 ∧ N64 l) ∨ (e = 20 ∧ l = [])) ∧ l.length ≤ 8 := by
          rcases decode_cases t1 with ⟨l, h1, h2, h3, h4⟩ | h1
          · exact ⟨l, 0, h1, .inl ⟨rfl, h3⟩, h4⟩
          · exact ⟨[], 20, h1, .inr ⟨rfl, rfl⟩, by simp⟩
        have hdf : Fun Try.prog 32 #[.string t1] (fun _ => True) [] (fun v => [HP.ex fun u => HP.and (v = .tuple #[u, .int .i64 e]) (HP.row kV 36 u l)]) := by
          have := decode_fun t1 hte
          rw [hd] at this
          exact this
        refine (hdf.call (F := [HP.row kC 73 u4 acc]) Hr (fun _ _ _ _ => trivial)).mono ?_
        rintro x w2 ⟨v2, rfl, H2⟩
        obtain ⟨u2, H3⟩ := St.ex_ H2
        obtain ⟨hv2, H4⟩ := St.and_ H3
        subst hv2
        obtain ⟨A5, c5, rfl, hc5, hC5⟩ := St.row_C H4
        have HC5 := Aside0.mk hC5
        clear hdf H2 H3 hC5 Hr hte
        by_cases hl2 : l.length = 2
        · obtain ⟨rfl, hn64⟩ : e = 0 ∧ N64 l := by
            rcases hec with h | ⟨_, rfl⟩
            · exact h
            · simp at hl2
          match l, hl2, hd, hn64, HC5, H4, hc5 with
          | [x, y], _, hd, hn64, HC5, H4, hc5 =>
            have hstep : step t.toList = some (x, y, t.toList.drop (1 + b.toNat)) := by rw [hst.out, hd]
            have hP := Aside0.mk (P_step acc _ hne x y _ hstep)
            clear hst hbad hec h8 hstep
            obtain ⟨g, cap, ev⟩ := St.row_form H4 (by simp)
            simp only [Value.slice.injEq] at ev
            obtain ⟨rfl, _, rfl⟩ := ev
            have hacl : acc.length ≤ 100000 := by omega
            clear HC5
            go_wp2_with fail
            go_region_held3 (fun w' => w'.cell? ⟨g, 1, none⟩ = some (.int .i64 x.f1) ∧ w'.cell? ⟨g, 3, none⟩ = some (.int .i64 y.f0) ∧ w'.cell? ⟨g, 4, none⟩ = some (.int .i64 y.f1) ∧ w'.cell? ⟨g, 5, none⟩ = some (.string y.f2))
              (first | exact two_cells H4 | exact two_cells H4.drew | exact two_cells ((H4.drew.lit (d := kC) (e := 73) (xs := [(⟨x.f1, y⟩ : C)]) (inner := [.int .i64 x.f1, .int .i64 y.f0, .int .i64 y.f1, .string y.f2]) (c1_reps (k73_mkM _ _ _ (⟨x.f1, y⟩ : C)) rfl) (by simp)).mv 1) | exact two_cells (HX.mv 2))
              (first
                | (have HZ := (H4.drew.lit (d := kC) (e := 73) (xs := [(⟨x.f1, y⟩ : C)]) (inner := [.int .i64 x.f1, .int .i64 y.f0, .int .i64 y.f1, .string y.f2]) (c1_reps (k73_mkM _ _ _ (⟨x.f1, y⟩ : C)) rfl) (by simp)).mv 2; refine ev_rows_step kC flatC (by rfl) (.tmp 37) (.tmp 46) 24 73 _ 40 (by rfl) Try.underlying24 infoC rfl (by decide) (by omega) u4 acc [(⟨x.f1, y⟩ : C)] _ _ (by rfl) (by rfl) HZ (St.row_reads (HZ.mv 1)).2.2 (by simp; omega) ?_; clear HZ; intro v47 w47 HX))
            go_wp2
            go_roundw
            case rel => exact ⟨acc ++ [(⟨x.f1, y⟩ : C)], t.extract (1 + b.toNat) t.size, rfl, by omega, by simp only [List.length_append, List.length_singleton]; omega, ⟨by rw [HP1.out, hP.out, hrest]⟩, ⟨fun c hc => by
              rcases List.mem_append.1 hc with h | h
              · exact H6.out c h
              · rw [List.mem_singleton.1 h]; exact ⟨hn64 x (by simp), hn64 y (by simp)⟩⟩, (HX.out 1).out 1⟩
            case measure => show (t.extract (1 + b.toNat) t.size).size < t.size; omega
        · have hR := hbad l e hd hl2
          have hl2' : ¬ (l.length : Int) = 2 := by omega
          clear hbad hst
          rcases hec with ⟨rfl, _⟩ | ⟨rfl, rfl⟩
          all_goals
            go_wp2
            go_ret2
            refine ⟨_, rfl, St.ex_in (Value.slice none 0 0) ?_⟩
            try rw [hR]
            exact St.and_in rfl (((H4.out 0).out 0).nil_ _ _)
      · have hn' : (b.toNat : Int) ≥ (t.size : Int) := by omega
        have hR : get s = ([], 100) := by rw [HG.out, HP1.out, P_none acc _ hne (step_over t b h0 hb hn)]
        clear hb
        go_wp2
        go_ret2
        refine ⟨_, rfl, St.ex_in (Value.slice none 0 0) ?_⟩
        try rw [hR]
        exact St.and_in rfl ((Hr.out 0).nil_ _ _)
    · have e : t.toList = [] := List.eq_nil_of_length_eq_zero (by rw [size_toList]; omega)
      have e0 : t.size = 0 := by omega
      have HE := Aside0.mk e
      clear e
      obtain ⟨A4, c4, rfl, hc4, hC4⟩ := St.row_C Hr
      have HC4 := Aside0.mk hC4
      clear hC4
      obtain ⟨p, f, hp, hpf⟩ := put_code acc
      have hput := rows_put_eq acc H6.out (by omega) _ (Nat.le_refl _)
      rw [hp] at hput
      have hget : get s = if (p, f) = (s, 0) then (acc, 0) else ([], 100) := by rw [HG.out, HP1.out, HE.out, P_nil]; simp only [hp]
      have HGT := Aside0.mk hget
      clear hget
      go_wp2_with fail
      refine (rows_Put.calls _ A4 c4 acc p f wr HC4.out hc4 hput).mono ?_
      rintro x w2 ⟨rfl, hb2⟩
      have H2 := Hr.later hb2
      clear Hr hput hp hb2
      rcases hpf with rfl | rfl
      · by_cases hps : p = s
        · have hbe : (p.toList == s.toList) = true := by rw [hps]; simp
          have hR : get s = (acc, 0) := by rw [HGT.out, if_pos (by rw [hps])]
          clear HGT
          go_wp2
          go_ret2
          refine ⟨_, rfl, St.ex_in (Value.slice A4 acc.length c4) ?_⟩
          try rw [hR]
          exact St.and_in rfl H2
        · have hbe : (p.toList == s.toList) = false := by rw [beq_eq_false_iff_ne]; exact fun h => hps (ext _ _ h)
          have hR : get s = ([], 100) := by rw [HGT.out, if_neg (fun h => hps (Prod.mk.inj h).1)]
          clear HGT
          go_wp2
          go_ret2
          refine ⟨_, rfl, St.ex_in (Value.slice none 0 0) ?_⟩
          try rw [hR]
          exact St.and_in rfl ((H2.out 0).nil_ _ _)
      · have hR : get s = ([], 100) := by rw [HGT.out, if_neg (fun h => by have := (Prod.mk.inj h).2; omega)]
        clear HGT
        go_wp2
        go_ret2
        refine ⟨_, rfl, St.ex_in (Value.slice none 0 0) ?_⟩
        try rw [hR]
        exact St.and_in rfl ((H2.out 0).nil_ _ _)
end Go.Proofs.Ytkhbmamcbhjafaa.Keys
