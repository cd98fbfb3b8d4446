/- The program's Decode, walked. -/
import Derived.Test.YtkhbmamcbhjafaaKeysT
import Derived.Test.YtkhbmamcbhjafaaKeysK
import Derived.WalkLawsBesides
import Derived.StillTailTactics
import Derived.IntWalk
import Derived.KernelRfl
import Derived.Laws.EntriesVeiled
namespace Go.Proofs.Ytkhbmamcbhjafaa.Keys
open Go.RowKit Go.Proofs.YtkhbmamcbhjafaaW.PrintWords Go.Proofs.YtkhbmamcbhjafaaW.PrintLast Go.Proofs.YtkhbmamcbhjafaaW.PrintMore Go.Proofs.Ytkhbmamcbhjafaa.Str Go.Proofs.Ytkhbmamcbhjafaa.PRef Go.Proofs.Ytkhbmamcbhjafaa.Stands Go.Proofs.Ytkhbmamcbhjafaa.Sl
set_option linter.unusedVariables false
set_option linter.unusedSimpArgs false
def lenV : Value → Nat
  | .slice _ n _ => n
  | _ => 0
def fv (f : FuncId) (g : Nat) : Value := .func (.func f) #[.pointer (some ⟨g, 0, none⟩)] #[]
def Cells3 (g ga : Nat) : HP := HP.obj ga 99 [fv 43 g, fv 44 g, fv 45 g]
theorem st_ne {w0 w : World} {S0 : Nat → Prop} {g g' : Nat} {o o' : Obj} {F : List HP} (h : St w0 S0 w (HP.own g o :: HP.own g' o' :: F)) : g ≠ g' := by
  obtain ⟨_, S, ⟨S1, S2, a, ⟨S3, S4, b, _, _, s3, _⟩, d, _, _⟩, _⟩ := h
  rintro rfl
  exact d _ a.2 (s3 _ b.2)
theorem reader_1 (g : Nat) (s : ByteArray) (hs : s.size ≤ 140737488351232) : FunV Try.prog 43 #[.pointer (some ⟨g, 0, none⟩)] (fun _ => True) [HP.obj g 97 [.string s]] (readV (readA s (decV (1 :: s.toList)))) [HP.obj g 97 [.string (readA s (decV (1 :: s.toList))).2.2.2.2]] := reader_fun 1 (.inl rfl) g s hs
theorem reader_2 (g : Nat) (s : ByteArray) (hs : s.size ≤ 140737488351232) : FunV Try.prog 44 #[.pointer (some ⟨g, 0, none⟩)] (fun _ => True) [HP.obj g 97 [.string s]] (readV (readA s (decV (2 :: s.toList)))) [HP.obj g 97 [.string (readA s (decV (2 :: s.toList))).2.2.2.2]] := reader_fun 2 (.inr (.inl rfl)) g s hs
theorem reader_3 (g : Nat) (s : ByteArray) (hs : s.size ≤ 140737488351232) : FunV Try.prog 45 #[.pointer (some ⟨g, 0, none⟩)] (fun _ => True) [HP.obj g 97 [.string s]] (readV (readA s (decV (3 :: s.toList)))) [HP.obj g 97 [.string (readA s (decV (3 :: s.toList))).2.2.2.2]] := reader_fun 3 (.inr (.inr rfl)) g s hs
theorem decV_bad (b : UInt8) (l : List UInt8) (h1 : b ≠ 1) (h2 : b ≠ 2) (h3 : b ≠ 3) : decV (b :: l) = none := by simp only [decV, if_neg h1, if_neg h2, if_neg h3]
theorem decG_full (acc : List V) (l : List UInt8) (h : acc.length = 8) (hne : l ≠ []) : decG (9 - acc.length) acc l = none := by
  rw [h]
  show decG 1 acc l = none
  simp only [decG, if_neg hne]
  cases decV l with
  | none => rfl
  | some p =>
    obtain ⟨v, r⟩ := p
    simp only []
    rw [if_neg (by omega)]
theorem decG_none (acc : List V) (l : List UInt8) (h : acc.length ≤ 8) (hne : l ≠ []) (hd : decV l = none) : decG (9 - acc.length) acc l = none := by
  rw [show 9 - acc.length = (8 - acc.length) + 1 by omega]
  simp only [decG, if_neg hne, hd]
theorem decG_wrong (acc : List V) (l : List UInt8) (h : acc.length ≤ 8) (hne : l ≠ []) (v : V) (r : List UInt8) (hd : decV l = some (v, r)) (hr : rightV v = false) : decG (9 - acc.length) acc l = none := by
  rw [show 9 - acc.length = (8 - acc.length) + 1 by omega]
  simp only [decG, if_neg hne, hd]
  rw [if_neg (by simp [hr])]
theorem decG_step (acc : List V) (l : List UInt8) (h : acc.length < 8) (hne : l ≠ []) (v : V) (r : List UInt8) (hd : decV l = some (v, r)) (hr : rightV v = true) : decG (9 - acc.length) acc l = decG (9 - (acc ++ [v]).length) (acc ++ [v]) r := by
  rw [show 9 - acc.length = (8 - acc.length) + 1 by omega, show 9 - (acc ++ [v]).length = 8 - acc.length by simp only [List.length_append, List.length_singleton]; omega]
  simp only [decG, if_neg hne, hd]
  rw [if_pos ⟨hr, by omega⟩]
theorem decG_done (acc : List V) (h : acc.length ≤ 8) : decG (9 - acc.length) acc [] = some acc := by
  rw [show 9 - acc.length = (8 - acc.length) + 1 by omega]
  simp only [decG, if_true]
set_option maxHeartbeats 2000000 in
set_option maxRecDepth 10000 in
theorem decode_fun (s : ByteArray) (hs : s.size ≤ 140737488351232) :
    Fun Try.prog 32 #[.string s] (fun _ => True) [] (fun v => [HP.ex fun u => HP.and (v = .tuple #[u, .int .i64 (decode s).2]) (HP.row kV 36 u (decode s).1)]) := by
  intro w S hS hR
  have H := St.start hS
  clear hS hR
  have hu24 := Try.underlying36
  have hu53 := Try.underlying97
  have hmf : ∀ (fn : Fn) (first cap : Array Value) (w : World), (Instr.makeFunc fn first cap).run Try.prog w = .ok (.func fn first cap) w := fun _ _ _ _ => rfl
  go_enter Try.func32, Try.ntmps32
  go_wp2_with (first
    | ((with_reducible refine gate_dst (N := 12) rfl ?_); refine ev_box ?hg (N := 12) ?hd (cs := [.string s]) (t := 97) H ?hr ?_; (case hd => rfl); (case hg => rfl); (case hr => first | (go_simp; done) | (go_simp; rfl)); intro g w1 H1 hg1))
  have H2 : St w S (w1.alloc (Obj.cells #[fv 43 g, fv 44 g, fv 45 g] 99)) [Cells3 g w1.heap.size, HP.obj g 97 [.string s]] := H1.alloc _
  go_loopw [6] (fun v6 w' => ∃ (acc : List V) (t : ByteArray), acc.length ≤ 8 ∧ t.size ≤ s.size ∧ Aside0 (decode s = ans (decG (9 - acc.length) acc t.toList)) ∧ St w S w' [HP.row kV 36 v6 acc, HP.obj g 97 [.string t], Cells3 g w1.heap.size]) (fun v6 _ => 9 - lenV v6)
  case atStart => exact ⟨[], s, by simp, Nat.le_refl _, ⟨rfl⟩, (H2.mv 1).nil_ _ _⟩
  case round =>
    obtain ⟨acc, t, ha, hts, HD, Hr⟩ := hrel
    obtain ⟨A6, c6, rfl, hc6, hC6⟩ := St.row_C Hr
    have HC6 := Aside0.mk hC6
    generalize w1.heap.size = ga at Hr ⊢
    clear H H1 H2 hC6
    have hcell : wr.cell? ⟨g, 0, none⟩ = some (.string t) := (Hr.mv 1).cell 0
    have hfz : wr.frozen? ⟨g, 0, none⟩ = false := (Hr.mv 1).unfrozen 0
    by_cases h0 : 0 < t.size
    · obtain ⟨b, hb⟩ : ∃ b : UInt8, t[0] = b := ⟨_, rfl⟩
      have hd0 : t.toList = b :: t.toList.drop 1 := by rw [← hb]; exact drop_at t 0 h0
      have hx0 : ∀ h : 0 < t.size, ((t[0]'h).toNat : Int) = (b.toNat : Int) := fun h => by rw [← hb]
      have hne : t.toList ≠ [] := by rw [hd0]; simp
      have hub : b.toNat < 256 := b.toNat_lt
      have hq0 : (0 < (t.size : Int)) = True := eq_true (by omega)
      have hq1 : (0 < t.size) = True := eq_true h0
      have hsz : (1 : Int) ≤ (t.size : Int) := by omega
      have hgg : g ≠ ga := st_ne (Hr.mv 1 |>.out 1)
      have hgg' : ga ≠ g := fun e => hgg e.symm
      by_cases h8 : acc.length = 8
      · have hR : decode s = ([], 20) := by rw [HD.out, decG_full _ _ h8 hne]; rfl
        have h8' : (acc.length : Int) = 8 := by omega
        have Hs := (Hr.mv 1).set 0 (.string (t.extract 1 t.size))
        have hub' : (b.toNat : Int) < 256 := by omega
        have hlb : 0 ≤ (b.toNat : Int) := by omega
        clear hd0 hb hub hmf hc6 ha
        generalize (b.toNat : Int) = n at hx0 hub' hlb
        have hw0 : IntKind.i64.wrap n = n := IntWalk.i64_in _ (by omega)
        have hw1 : IntKind.i64.wrap (n - 1) = n - 1 := IntWalk.i64_in _ (by omega)
        rcases (show n = 0 ∨ (1 ≤ n ∧ n ≤ 3) ∨ 4 ≤ n by omega) with h1 | h1 | h1
        all_goals
            (go_wp2
             go_ret2
             refine ⟨_, rfl, St.ex_in (Value.slice none 0 0) ?_⟩
             try rw [hR]
             exact St.and_in rfl ((((Hs.out 0).out 0).out 0).nil_ _ _))
      · by_cases hb3 : b = 1 ∨ b = 2 ∨ b = 3
        · have hc1 : wr.cell? ⟨ga, 0, none⟩ = some (fv 43 g) := (Hr.mv 2).cell 0
          have hc2 : wr.cell? ⟨ga, 1, none⟩ = some (fv 44 g) := (Hr.mv 2).cell 1
          have hc3 : wr.cell? ⟨ga, 2, none⟩ = some (fv 45 g) := (Hr.mv 2).cell 2
          unfold fv at hc1 hc2 hc3
          have hacc : ¬ ((acc.length : Int) = 8) := by omega
          have Hs := (Hr.mv 1).set 0 (.string (t.extract 1 t.size))
          rcases hb3 with rfl | rfl | rfl
          · have hx0' : ∀ h : 0 < t.size, ((t[0]'h).toNat : Int) = 1 := hx0
            clear hx0 hb hub hmf
            go_wp2_with fail
            have hdt : decV (1 :: (t.extract 1 t.size).toList) = decV t.toList := by rw [extract_toList t 1 h0, ← hd0]
            have hts' : (t.extract 1 t.size).size ≤ 140737488351232 := by rw [← size_toList, extract_toList t 1 h0, List.length_drop, size_toList]; omega
            have HCall := (reader_1 g (t.extract 1 t.size) hts').call (F := [HP.row kV 36 (.slice A6 acc.length c6) acc, Cells3 g ga]) Hs (fun _ _ _ _ => trivial)
            rw [hdt] at HCall
            generalize t.extract 1 t.size = t1 at HCall ⊢
            clear hdt Hs hc1 hc2 hc3 hcell hfz hx0' hq0 hq1 hd0
            cases hd : decV t.toList with
            | none =>
              have hR : decode s = ([], 20) := by rw [HD.out, decG_none _ _ ha hne hd]; rfl
              rw [hd] at HCall
              have HCall : Calls Try.prog 43 #[.pointer (some ⟨g, 0, none⟩)] _ (fun e w' => e = .returned (.tuple #[.agg #[.int .i64 0, .int .i64 0, .string ⟨#[]⟩], .bool false]) ∧ St w S w' [HP.obj g 97 [.string t1], HP.row kV 36 (.slice A6 acc.length c6) acc, Cells3 g ga]) := HCall
              refine HCall.mono ?_
              rintro e w2 ⟨rfl, H3⟩
              clear HCall
              go_wp2
              go_ret2
              refine ⟨_, rfl, St.ex_in (Value.slice none 0 0) ?_⟩
              rw [hR]
              exact St.and_in rfl ((((((H3.alloc _).out 0).out 0).out 0).out 0).nil_ _ _)
            | some p =>
              obtain ⟨v, q⟩ := p
              have hsuf := (decV_suffix _ _ _ hd).2
              rw [size_toList] at hsuf
              rw [hd] at HCall
              have HCall : Calls Try.prog 43 #[.pointer (some ⟨g, 0, none⟩)] _ (fun e w' => e = .returned (.tuple #[.agg #[.int .i64 v.f0, .int .i64 v.f1, .string v.f2], .bool true]) ∧ St w S w' [HP.obj g 97 [.string ⟨q.toArray⟩], HP.row kV 36 (.slice A6 acc.length c6) acc, Cells3 g ga]) := HCall
              have hck := check_eq v.f0 v.f1 v.f2
              refine HCall.mono ?_
              rintro e w2 ⟨rfl, H3⟩
              clear HCall
              by_cases hr : rightV v = true
              · rw [if_pos (show rightV ⟨v.f0, v.f1, v.f2⟩ = true from hr)] at hck
                have hstep := Aside0.mk (decG_step acc _ (by omega) hne v q hd hr)
                clear hd
                go_wp2_with (first
                  | (go_at_call 39; refine (value_Check.calls v.f0 v.f1 v.f2 0 _ hck).mono ?_; rintro e w4 ⟨rfl, hb4⟩; have H4 := (H3.alloc (Obj.cells #[.int .i64 v.f0, .int .i64 v.f1, .string v.f2] 36)).later hb4; have hq0 : w4.cell? ⟨w2.heap.size, 0, none⟩ = some (.int .i64 v.f0) := St.cell (cs := [.int .i64 v.f0, .int .i64 v.f1, .string v.f2]) H4 0; have hq1 : w4.cell? ⟨w2.heap.size, 1, none⟩ = some (.int .i64 v.f1) := St.cell (cs := [.int .i64 v.f0, .int .i64 v.f1, .string v.f2]) H4 1; have hq2 : w4.cell? ⟨w2.heap.size, 2, none⟩ = some (.string v.f2) := St.cell (cs := [.int .i64 v.f0, .int .i64 v.f1, .string v.f2]) H4 2; have HA : St w S w4 [HP.row kV 36 (.slice A6 acc.length c6) acc, HP.cells kV v [.int .i64 v.f0, .int .i64 v.f1, .string v.f2], HP.obj g 97 [.string ⟨q.toArray⟩], Cells3 g ga] := (((H4.out 0).mv 1).cells_ (k36_mkM _ _ _ v)).mv 1; clear H4)
                  | ((with_reducible refine gate_dst (N := 69) rfl ?_); at_builtin; refine ev_append kV rfl (.tmp 66) (.tmp 68) 75 36 _ 32 rfl Try.underlying75 infoV rfl (by decide) (by omega) (.slice A6 acc.length c6) acc v [.int .i64 v.f0, .int .i64 v.f1, .string v.f2] rfl rfl HA (by omega) ?_; intro v3 w5 H5; obtain ⟨A7, c7, rfl, hc7, hC7⟩ := St.row_C H5; clear hC7))
                go_roundw
                case rel => exact ⟨acc ++ [v], ⟨q.toArray⟩, by simp only [List.length_append, List.length_singleton]; omega, by rw [mk_size]; omega, ⟨by rw [HD.out, hstep.out, mk_toList]⟩, by have h := H5; rw [show (acc ++ [v]).length = acc.length + 1 by simp] at h; exact h⟩
                case measure => simp [lenV]; omega
              · have hr : rightV v = false := by simpa using hr
                rw [if_neg (show ¬ rightV ⟨v.f0, v.f1, v.f2⟩ = true from by rw [show rightV ⟨v.f0, v.f1, v.f2⟩ = false from hr]; decide)] at hck
                have hR : decode s = ([], 20) := by rw [HD.out, decG_wrong _ _ ha hne v q hd hr]; rfl
                clear hd
                go_wp2_with (go_at_call 39; refine (value_Check.calls v.f0 v.f1 v.f2 10 _ hck).mono ?_; rintro e w4 ⟨rfl, hb4⟩; have H4 := (H3.alloc (Obj.cells #[.int .i64 v.f0, .int .i64 v.f1, .string v.f2] 36)).later hb4)
                go_ret2
                refine ⟨_, rfl, St.ex_in (Value.slice none 0 0) ?_⟩
                rw [hR]
                exact St.and_in rfl (((((H4.out 0).out 0).out 0).out 0).nil_ _ _)
          · have hx0' : ∀ h : 0 < t.size, ((t[0]'h).toNat : Int) = 2 := hx0
            clear hx0 hb hub hmf
            go_wp2_with fail
            have hdt : decV (2 :: (t.extract 1 t.size).toList) = decV t.toList := by rw [extract_toList t 1 h0, ← hd0]
            have hts' : (t.extract 1 t.size).size ≤ 140737488351232 := by rw [← size_toList, extract_toList t 1 h0, List.length_drop, size_toList]; omega
            have HCall := (reader_2 g (t.extract 1 t.size) hts').call (F := [HP.row kV 36 (.slice A6 acc.length c6) acc, Cells3 g ga]) Hs (fun _ _ _ _ => trivial)
            rw [hdt] at HCall
            generalize t.extract 1 t.size = t1 at HCall ⊢
            clear hdt Hs hc1 hc2 hc3 hcell hfz hx0' hq0 hq1 hd0
            cases hd : decV t.toList with
            | none =>
              have hR : decode s = ([], 20) := by rw [HD.out, decG_none _ _ ha hne hd]; rfl
              rw [hd] at HCall
              have HCall : Calls Try.prog 44 #[.pointer (some ⟨g, 0, none⟩)] _ (fun e w' => e = .returned (.tuple #[.agg #[.int .i64 0, .int .i64 0, .string ⟨#[]⟩], .bool false]) ∧ St w S w' [HP.obj g 97 [.string t1], HP.row kV 36 (.slice A6 acc.length c6) acc, Cells3 g ga]) := HCall
              refine HCall.mono ?_
              rintro e w2 ⟨rfl, H3⟩
              clear HCall
              go_wp2
              go_ret2
              refine ⟨_, rfl, St.ex_in (Value.slice none 0 0) ?_⟩
              rw [hR]
              exact St.and_in rfl ((((((H3.alloc _).out 0).out 0).out 0).out 0).nil_ _ _)
            | some p =>
              obtain ⟨v, q⟩ := p
              have hsuf := (decV_suffix _ _ _ hd).2
              rw [size_toList] at hsuf
              rw [hd] at HCall
              have HCall : Calls Try.prog 44 #[.pointer (some ⟨g, 0, none⟩)] _ (fun e w' => e = .returned (.tuple #[.agg #[.int .i64 v.f0, .int .i64 v.f1, .string v.f2], .bool true]) ∧ St w S w' [HP.obj g 97 [.string ⟨q.toArray⟩], HP.row kV 36 (.slice A6 acc.length c6) acc, Cells3 g ga]) := HCall
              have hck := check_eq v.f0 v.f1 v.f2
              refine HCall.mono ?_
              rintro e w2 ⟨rfl, H3⟩
              clear HCall
              by_cases hr : rightV v = true
              · rw [if_pos (show rightV ⟨v.f0, v.f1, v.f2⟩ = true from hr)] at hck
                have hstep := Aside0.mk (decG_step acc _ (by omega) hne v q hd hr)
                clear hd
                go_wp2_with (first
                  | (go_at_call 39; refine (value_Check.calls v.f0 v.f1 v.f2 0 _ hck).mono ?_; rintro e w4 ⟨rfl, hb4⟩; have H4 := (H3.alloc (Obj.cells #[.int .i64 v.f0, .int .i64 v.f1, .string v.f2] 36)).later hb4; have hq0 : w4.cell? ⟨w2.heap.size, 0, none⟩ = some (.int .i64 v.f0) := St.cell (cs := [.int .i64 v.f0, .int .i64 v.f1, .string v.f2]) H4 0; have hq1 : w4.cell? ⟨w2.heap.size, 1, none⟩ = some (.int .i64 v.f1) := St.cell (cs := [.int .i64 v.f0, .int .i64 v.f1, .string v.f2]) H4 1; have hq2 : w4.cell? ⟨w2.heap.size, 2, none⟩ = some (.string v.f2) := St.cell (cs := [.int .i64 v.f0, .int .i64 v.f1, .string v.f2]) H4 2; have HA : St w S w4 [HP.row kV 36 (.slice A6 acc.length c6) acc, HP.cells kV v [.int .i64 v.f0, .int .i64 v.f1, .string v.f2], HP.obj g 97 [.string ⟨q.toArray⟩], Cells3 g ga] := (((H4.out 0).mv 1).cells_ (k36_mkM _ _ _ v)).mv 1; clear H4)
                  | ((with_reducible refine gate_dst (N := 69) rfl ?_); at_builtin; refine ev_append kV rfl (.tmp 66) (.tmp 68) 75 36 _ 32 rfl Try.underlying75 infoV rfl (by decide) (by omega) (.slice A6 acc.length c6) acc v [.int .i64 v.f0, .int .i64 v.f1, .string v.f2] rfl rfl HA (by omega) ?_; intro v3 w5 H5; obtain ⟨A7, c7, rfl, hc7, hC7⟩ := St.row_C H5; clear hC7))
                go_roundw
                case rel => exact ⟨acc ++ [v], ⟨q.toArray⟩, by simp only [List.length_append, List.length_singleton]; omega, by rw [mk_size]; omega, ⟨by rw [HD.out, hstep.out, mk_toList]⟩, by have h := H5; rw [show (acc ++ [v]).length = acc.length + 1 by simp] at h; exact h⟩
                case measure => simp [lenV]; omega
              · have hr : rightV v = false := by simpa using hr
                rw [if_neg (show ¬ rightV ⟨v.f0, v.f1, v.f2⟩ = true from by rw [show rightV ⟨v.f0, v.f1, v.f2⟩ = false from hr]; decide)] at hck
                have hR : decode s = ([], 20) := by rw [HD.out, decG_wrong _ _ ha hne v q hd hr]; rfl
                clear hd
                go_wp2_with (go_at_call 39; refine (value_Check.calls v.f0 v.f1 v.f2 10 _ hck).mono ?_; rintro e w4 ⟨rfl, hb4⟩; have H4 := (H3.alloc (Obj.cells #[.int .i64 v.f0, .int .i64 v.f1, .string v.f2] 36)).later hb4)
                go_ret2
                refine ⟨_, rfl, St.ex_in (Value.slice none 0 0) ?_⟩
                rw [hR]
                exact St.and_in rfl (((((H4.out 0).out 0).out 0).out 0).nil_ _ _)
          · have hx0' : ∀ h : 0 < t.size, ((t[0]'h).toNat : Int) = 3 := hx0
            clear hx0 hb hub hmf
            go_wp2_with fail
            have hdt : decV (3 :: (t.extract 1 t.size).toList) = decV t.toList := by rw [extract_toList t 1 h0, ← hd0]
            have hts' : (t.extract 1 t.size).size ≤ 140737488351232 := by rw [← size_toList, extract_toList t 1 h0, List.length_drop, size_toList]; omega
            have HCall := (reader_3 g (t.extract 1 t.size) hts').call (F := [HP.row kV 36 (.slice A6 acc.length c6) acc, Cells3 g ga]) Hs (fun _ _ _ _ => trivial)
            rw [hdt] at HCall
            generalize t.extract 1 t.size = t1 at HCall ⊢
            clear hdt Hs hc1 hc2 hc3 hcell hfz hx0' hq0 hq1 hd0
            cases hd : decV t.toList with
            | none =>
              have hR : decode s = ([], 20) := by rw [HD.out, decG_none _ _ ha hne hd]; rfl
              rw [hd] at HCall
              have HCall : Calls Try.prog 45 #[.pointer (some ⟨g, 0, none⟩)] _ (fun e w' => e = .returned (.tuple #[.agg #[.int .i64 0, .int .i64 0, .string ⟨#[]⟩], .bool false]) ∧ St w S w' [HP.obj g 97 [.string t1], HP.row kV 36 (.slice A6 acc.length c6) acc, Cells3 g ga]) := HCall
              refine HCall.mono ?_
              rintro e w2 ⟨rfl, H3⟩
              clear HCall
              go_wp2
              go_ret2
              refine ⟨_, rfl, St.ex_in (Value.slice none 0 0) ?_⟩
              rw [hR]
              exact St.and_in rfl ((((((H3.alloc _).out 0).out 0).out 0).out 0).nil_ _ _)
            | some p =>
              obtain ⟨v, q⟩ := p
              have hsuf := (decV_suffix _ _ _ hd).2
              rw [size_toList] at hsuf
              rw [hd] at HCall
              have HCall : Calls Try.prog 45 #[.pointer (some ⟨g, 0, none⟩)] _ (fun e w' => e = .returned (.tuple #[.agg #[.int .i64 v.f0, .int .i64 v.f1, .string v.f2], .bool true]) ∧ St w S w' [HP.obj g 97 [.string ⟨q.toArray⟩], HP.row kV 36 (.slice A6 acc.length c6) acc, Cells3 g ga]) := HCall
              have hck := check_eq v.f0 v.f1 v.f2
              refine HCall.mono ?_
              rintro e w2 ⟨rfl, H3⟩
              clear HCall
              by_cases hr : rightV v = true
              · rw [if_pos (show rightV ⟨v.f0, v.f1, v.f2⟩ = true from hr)] at hck
                have hstep := Aside0.mk (decG_step acc _ (by omega) hne v q hd hr)
                clear hd
                go_wp2_with (first
                  | (go_at_call 39; refine (value_Check.calls v.f0 v.f1 v.f2 0 _ hck).mono ?_; rintro e w4 ⟨rfl, hb4⟩; have H4 := (H3.alloc (Obj.cells #[.int .i64 v.f0, .int .i64 v.f1, .string v.f2] 36)).later hb4; have hq0 : w4.cell? ⟨w2.heap.size, 0, none⟩ = some (.int .i64 v.f0) := St.cell (cs := [.int .i64 v.f0, .int .i64 v.f1, .string v.f2]) H4 0; have hq1 : w4.cell? ⟨w2.heap.size, 1, none⟩ = some (.int .i64 v.f1) := St.cell (cs := [.int .i64 v.f0, .int .i64 v.f1, .string v.f2]) H4 1; have hq2 : w4.cell? ⟨w2.heap.size, 2, none⟩ = some (.string v.f2) := St.cell (cs := [.int .i64 v.f0, .int .i64 v.f1, .string v.f2]) H4 2; have HA : St w S w4 [HP.row kV 36 (.slice A6 acc.length c6) acc, HP.cells kV v [.int .i64 v.f0, .int .i64 v.f1, .string v.f2], HP.obj g 97 [.string ⟨q.toArray⟩], Cells3 g ga] := (((H4.out 0).mv 1).cells_ (k36_mkM _ _ _ v)).mv 1; clear H4)
                  | ((with_reducible refine gate_dst (N := 69) rfl ?_); at_builtin; refine ev_append kV rfl (.tmp 66) (.tmp 68) 75 36 _ 32 rfl Try.underlying75 infoV rfl (by decide) (by omega) (.slice A6 acc.length c6) acc v [.int .i64 v.f0, .int .i64 v.f1, .string v.f2] rfl rfl HA (by omega) ?_; intro v3 w5 H5; obtain ⟨A7, c7, rfl, hc7, hC7⟩ := St.row_C H5; clear hC7))
                go_roundw
                case rel => exact ⟨acc ++ [v], ⟨q.toArray⟩, by simp only [List.length_append, List.length_singleton]; omega, by rw [mk_size]; omega, ⟨by rw [HD.out, hstep.out, mk_toList]⟩, by have h := H5; rw [show (acc ++ [v]).length = acc.length + 1 by simp] at h; exact h⟩
                case measure => simp [lenV]; omega
              · have hr : rightV v = false := by simpa using hr
                rw [if_neg (show ¬ rightV ⟨v.f0, v.f1, v.f2⟩ = true from by rw [show rightV ⟨v.f0, v.f1, v.f2⟩ = false from hr]; decide)] at hck
                have hR : decode s = ([], 20) := by rw [HD.out, decG_wrong _ _ ha hne v q hd hr]; rfl
                clear hd
                go_wp2_with (go_at_call 39; refine (value_Check.calls v.f0 v.f1 v.f2 10 _ hck).mono ?_; rintro e w4 ⟨rfl, hb4⟩; have H4 := (H3.alloc (Obj.cells #[.int .i64 v.f0, .int .i64 v.f1, .string v.f2] 36)).later hb4)
                go_ret2
                refine ⟨_, rfl, St.ex_in (Value.slice none 0 0) ?_⟩
                rw [hR]
                exact St.and_in rfl (((((H4.out 0).out 0).out 0).out 0).nil_ _ _)
        · have hR : decode s = ([], 20) := by rw [HD.out, decG_none _ _ ha hne (by rw [hd0]; exact decV_bad _ _ (fun h => hb3 (.inl h)) (fun h => hb3 (.inr (.inl h))) (fun h => hb3 (.inr (.inr h))))]; rfl
          have Hs := (Hr.mv 1).set 0 (.string (t.extract 1 t.size))
          have hub' : (b.toNat : Int) < 256 := by omega
          have hlb : 0 ≤ (b.toNat : Int) := by omega
          have hn1 : ¬ b.toNat = 1 := fun h => hb3 (.inl (UInt8.toNat_inj.1 h))
          have hn2 : ¬ b.toNat = 2 := fun h => hb3 (.inr (.inl (UInt8.toNat_inj.1 h)))
          have hn3 : ¬ b.toNat = 3 := fun h => hb3 (.inr (.inr (UInt8.toNat_inj.1 h)))
          have hn : (b.toNat : Int) = 0 ∨ 4 ≤ (b.toNat : Int) := by omega
          clear hd0 hb hub hmf hc6 ha hn1 hn2 hn3 hb3
          generalize (b.toNat : Int) = n at hx0 hub' hlb hn
          have hw0 : IntKind.i64.wrap n = n := IntWalk.i64_in _ (by omega)
          have hw1 : IntKind.i64.wrap (n - 1) = n - 1 := IntWalk.i64_in _ (by omega)
          rcases hn with h1 | h1
          all_goals
            (go_wp2
             go_ret2
             refine ⟨_, rfl, St.ex_in (Value.slice none 0 0) ?_⟩
             try rw [hR]
             exact St.and_in rfl ((((Hs.out 0).out 0).out 0).nil_ _ _))
    · have e : t.toList = [] := List.eq_nil_of_length_eq_zero (by rw [size_toList]; omega)
      have e0 : t.size = 0 := by omega
      have HE := Aside0.mk e
      clear e
      go_wp2
      go_ret2
      refine ⟨_, rfl, St.ex_in (Value.slice A6 acc.length c6) ?_⟩
      rw [HD.out, HE.out, decG_done _ ha]
      exact St.and_in rfl (Hr.out 1 |>.out 1)
end Go.Proofs.Ytkhbmamcbhjafaa.Keys
