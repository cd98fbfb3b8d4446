/- (*Store).Span, walked. -/
import Derived.Test.YtphenpncdhgdhaaRowsW
import Derived.Deep.QuietTactic
import Derived.BigQuiet
import Derived.WalkLawsBesides
namespace Go.Proofs.Ytphenpncdhgdhaa.Ver
open Go.RowKit Go.Proofs.YtphenpncdhgdhaaW.PrintWords Go.Proofs.YtphenpncdhgdhaaW.PrintLast Go.Proofs.YtphenpncdhgdhaaW.PrintMore Go.Proofs.Ytphenpncdhgdhaa.Sl Go.Proofs.Ytphenpncdhgdhaa.Str
set_option linter.unusedVariables false
set_option linter.unusedSimpArgs false
def kHt : Kd Ht := Kd.iso (Kd.pair Kd.string (Kd.pair (Kd.int .i64) Kd.string)) (fun x : Ht => (x.key, x.ts, x.val))
theorem kHt_open {w : World} {x : Ht} {cs : List Value} (h : kHt.K w x cs) : cs = [.string x.key, .int .i64 x.ts, .string x.val] := by
  obtain ⟨_, _, rfl, rfl, ⟨_, _, rfl, rfl, rfl⟩⟩ := h
  exact rfl
theorem kHt_mkM (w : World) (base : Nat) (ok : Nat → Prop) (x : Ht) : kHt.M w base ok x [.string x.key, .int .i64 x.ts, .string x.val] := ⟨[.string x.key], [.int .i64 x.ts, .string x.val], rfl, rfl, ⟨[.int .i64 x.ts], [.string x.val], rfl, rfl, rfl⟩⟩
theorem infoHt : (Try.prog.info? 51).map (fun i => (i.zero, i.size, i.bytes)) = some (some (.agg #[.string ⟨#[]⟩, .int .i64 0, .string ⟨#[]⟩]), 3, 40) := by kernel_rfl
theorem flatHt : Flat kHt := fun w b x cs h => by
  obtain rfl := kHt_open h
  exact kHt_mkM _ _ _ _
/-- The newest version in time, found from behind. -/
theorem upTo_none (vs : List Vn) (ts : Int) (h : ∀ j (hj : j < vs.length), ts < vs[j].ts) : upTo vs ts = none := by
  unfold upTo
  rw [List.filter_eq_nil_iff.2 (fun v hv => by
    obtain ⟨j, hj, rfl⟩ := List.mem_iff_getElem.1 hv
    have := h j hj
    simp
    omega)]
  rfl
theorem upTo_some (vs : List Vn) (ts : Int) (k : Nat) (hk : k < vs.length) (h1 : vs[k].ts ≤ ts) (h : ∀ j (hj : j < vs.length), k < j → ts < vs[j].ts) : upTo vs ts = some vs[k] := by
  unfold upTo
  have e : vs = vs.take k ++ vs[k] :: vs.drop (k + 1) := by rw [← List.drop_eq_getElem_cons hk, List.take_append_drop]
  conv => lhs; rw [e]
  have hz : (vs.drop (k + 1)).filter (fun v => decide (v.ts ≤ ts)) = [] := List.filter_eq_nil_iff.2 (fun v hv => by
    obtain ⟨j, hj, rfl⟩ := List.mem_iff_getElem.1 hv
    have hj' : j < vs.length - (k + 1) := by simpa using hj
    rw [List.getElem_drop]
    have := h (k + 1 + j) (by omega) (by omega)
    simp
    omega)
  rw [List.filter_append, List.filter_cons_of_pos (by simpa using h1), hz]
  simp
/-- What is still to be told, from a row on. -/
def rest (rows : List Rw) (b : ByteArray) (ts : Int) (i : Nat) : List Ht := ((rows.drop i).takeWhile (fun r => decide (cmpS r.key b < 0))).filterMap (fun r => hitOf r ts)
theorem rest_start (rows : List Rw) (h : Rises rows) (a b : ByteArray) (ts : Int) : span rows a b ts = rest rows b ts (lb rows a) := by
  unfold span rest
  rw [span_walk rows h a b]
theorem rest_end (rows : List Rw) (b : ByteArray) (ts : Int) (i : Nat) (hi : rows.length ≤ i) : rest rows b ts i = [] := by
  unfold rest
  rw [List.drop_of_length_le hi]
  rfl
theorem rest_stop (rows : List Rw) (b : ByteArray) (ts : Int) (i : Nat) (hi : i < rows.length) (h : ¬ cmpS rows[i].key b < 0) : rest rows b ts i = [] := by
  unfold rest
  rw [List.drop_eq_getElem_cons hi, List.takeWhile_cons_of_neg (by simpa using h)]
  rfl
theorem rest_step (rows : List Rw) (b : ByteArray) (ts : Int) (i : Nat) (hi : i < rows.length) (h : cmpS rows[i].key b < 0) : rest rows b ts i = (hitOf rows[i] ts).toList ++ rest rows b ts (i + 1) := by
  unfold rest
  rw [List.drop_eq_getElem_cons hi, List.takeWhile_cons_of_pos (by simpa using h), List.filterMap_cons]
  cases hitOf rows[i] ts <;> rfl
theorem span_back {w0 w : World} {S0 : Nat → Prop} {F : List HP} {rows : List Rw} {us : List Value} (hu : us.length = rows.length) (i : Nat) (hi : i < rows.length) {ui : Value} {vs : List Vn} (hui : us[i]'(by omega) = ui) (hvs : rows[i].vs = vs)
    (h : St w0 S0 w (HP.row kVn 131 ui vs :: Sl.all ((inner rows us).eraseIdx i) :: F)) : St w0 S0 w (Sl.all (inner rows us) :: F) := by
  subst hui
  subst hvs
  have h1 := st_back (L := inner rows us) i (by simp [inner, hu]; exact hi) h
  rw [inner_self rows us hu i hi] at h1
  exact h1
theorem hit_none {rows : List Rw} {i : Nat} (hi : i < rows.length) {vs : List Vn} (hvs : rows[i].vs = vs) {ts : Int} (h : upTo vs ts = none) : hitOf rows[i] ts = none := by unfold hitOf; rw [hvs, h]
theorem hit_some {rows : List Rw} {i : Nat} (hi : i < rows.length) {vs : List Vn} (hvs : rows[i].vs = vs) {km : ByteArray} (hk : rows[i].key = km) {ts : Int} {v : Vn} (h : upTo vs ts = some v) : hitOf rows[i] ts = if v.dead = true then none else some ⟨km, v.ts, v.val⟩ := by unfold hitOf; rw [hvs, h, hk]
set_option maxHeartbeats 4000000 in
set_option maxRecDepth 20000 in
theorem span_fun (g : Nat) (u : Value) (rows : List Rw) (us : List Value) (hr : Rises rows) (hf : Full rows) (hu : us.length = rows.length) (hl : rows.length * 40 ≤ 140737488355328) (a b : ByteArray) (ts : Int) :
    Fun Try.prog 33 #[.pointer (some ⟨g, 0, none⟩), .agg #[.string a, .string b], .int .i64 ts] (fun _ => True) [storeH g u rows us] (fun r => [HP.row kHt 51 r (span rows a b ts), storeH g u rows us]) := by
  intro w S hS hR
  have HS := storeH_open (St.start hS)
  clear hS hR
  have hu62 := Try.underlying124
  have hu53 := Try.underlying86
  have hu48 := Try.underlying74
  have hu51 := Try.underlying84
  have hu29 := Try.underlying131
  have hu24 := Try.underlying24
  have hu39 := Try.underlying51
  have hu34 := Try.underlying47
  have HF := Aside0.mk hf
  clear hf
  have HU := Aside0.mk hu
  have hl0 : rows.length ≤ 140737488355328 := by omega
  have HRS := Aside0.mk (rest_start rows hr a b ts)
  have hfind := Aside0.mk (find_fun g u rows us hr hu hl0 a)
  have hlb := lb_le rows a
  clear hu hr
  go_enter Try.func33, Try.ntmps33
  go_wp2_with ((with_reducible refine gate_dst (N := 4) rfl ?_); refine ev_box ?hg (N := 4) ?hd (cs := [.string a, .string b]) (t := 24) HS ?hr ?_; (case hd => rfl); (case hg => rfl); (case hr => first | (go_simp; done) | (go_simp; rfl)); intro pb w1 HS_ hg_; clear HS; have HS := HS_; clear HS_; have q := HS.cell 0)
  refine (hfind.out.call (F := [Sl.all (inner rows us), HP.obj pb 24 [.string a, .string b]]) (((HS.mv 3).mv 3).mv 3) (fun _ _ _ _ => trivial)).mono ?_
  rintro e_ w2 ⟨rfl, HS_⟩
  clear HS q hfind
  have HS : St w S w2 [HP.row kHt 51 (.slice none 0 0) [], HP.obj g 124 [u], HP.row (raw 2) 86 u (rowsC rows us), Sl.all (inner rows us), HP.obj pb 24 [.string a, .string b]] := HS_.nil_ _ _
  clear HS_
  generalize lb rows a = i0 at hlb HRS ⊢
  go_wp2_with fail
  go_loopw [7, 8] (fun v7 v8 w' => ∃ (i : Nat) (acc : List Ht), i ≤ rows.length ∧ v8 = .int .i64 i ∧ acc.length ≤ i ∧ Aside0 (span rows a b ts = acc ++ rest rows b ts i) ∧ St w S w' [HP.row kHt 51 v7 acc, HP.obj g 124 [u], HP.row (raw 2) 86 u (rowsC rows us), Sl.all (inner rows us), HP.obj pb 24 [.string a, .string b]]) (fun _ v8 _ => rows.length - (intOf v8).toNat)
  case atStart => exact ⟨i0, [], hlb, rfl, Nat.zero_le _, ⟨by rw [HRS.out]; rfl⟩, HS⟩
  case round =>
    clear HS
    obtain ⟨i, acc, hi, rfl, hacc, HA, HS⟩ := hrel
    by_cases hlt : i < rows.length
    · have hltI : (i : Int) < (rows.length : Int) := by omega
      have hi0 : (0 : Int) ≤ (i : Int) := by omega
      have hid : decide ((i : Int) < (rows.length : Int)) = true := decide_eq_true hltI
      obtain ⟨gr, cr, ev⟩ := St.row_form (HS.mv 2) (by rw [rowsC_length HU.out]; omega)
      rw [rowsC_length HU.out] at ev
      subst ev
      obtain ⟨ui, hui⟩ : ∃ ui, us[i]'(by rw [HU.out]; exact hlt) = ui := ⟨_, rfl⟩
      obtain ⟨km, hkm⟩ : ∃ km, rows[i].key = km := ⟨_, rfl⟩
      have hrc := rows_cell HU.out i hlt
      rw [hui, hkm] at hrc
      have HRC := Aside0.mk hrc
      have q0 : wr.cell? ⟨g, 0, none⟩ = some (.slice (some ⟨gr, 0, none⟩) rows.length cr) := (HS.mv 1).cell 0
      have q1 : wr.cell? ⟨gr, i * 2, none⟩ = some (.string km) := (St.raw_cell (HS.mv 2) i 0 hrc (by omega)).1
      have q2 : wr.cell? ⟨pb, 1, none⟩ = some (.string b) := (HS.mv 4).cell 1
      have HUI := Aside0.mk hui
      have HKM := Aside0.mk hkm
      clear hrc hui hkm
      by_cases hc : cmpS km b < 0
      · have hls : Op.bytesLess km.toList b.toList = true := by rw [bytesLess_cmp]; exact decide_eq_true hc
        go_wp2_with fail
        go_quiet (fail)
        generalize hq : World.drewN wr _ = wq
        have H5 := hq ▸ HS.drewN _
        clear hq HS q0 q1 q2
        have hne := (HF.out rows[i] (List.getElem_mem hlt)).1
        obtain ⟨vs, hvs⟩ : ∃ vs, rows[i].vs = vs := ⟨_, rfl⟩
        have HI := st_pick (H5.mv 3) i (inner_get HU.out i hlt)
        rw [HUI.out, hvs] at HI
        rw [hvs] at hne
        have hlen : 0 < vs.length := List.length_pos_iff.2 hne
        obtain ⟨gi, ci, ev⟩ := St.row_form HI hlen
        subst ev
        have HVS := Aside0.mk hvs
        clear hvs hne H5
        have HS : St w S wq [HP.row kVn 131 (.slice (some ⟨gi, 0, none⟩) vs.length ci) vs, Sl.all ((inner rows us).eraseIdx i), HP.row kHt 51 u7 acc, HP.obj g 124 [.slice (some ⟨gr, 0, none⟩) rows.length cr], HP.row (raw 2) 86 (.slice (some ⟨gr, 0, none⟩) rows.length cr) (rowsC rows us), HP.obj pb 24 [.string a, .string b]] := HI
        clear HI
        have hvl := row_max HS
        have k0 : wq.cell? ⟨g, 0, none⟩ = some (.slice (some ⟨gr, 0, none⟩) rows.length cr) := (HS.mv 3).cell 0
        have k1 : wq.cell? ⟨gr, i * 2, none⟩ = some (.string km) := (St.raw_cell (HS.mv 4) i 0 HRC.out (by omega)).1
        have k2 : wq.cell? ⟨gr, i * 2 + 1, none⟩ = some (.slice (some ⟨gi, 0, none⟩) vs.length ci) := (St.raw_cell (HS.mv 4) i 1 HRC.out (by omega)).1
        have hw1 : IntKind.i64.wrap ((vs.length : Int) - 1) = (vs.length : Int) - 1 := IntWalk.i64_in _ (by omega)
        go_wp2_with (first
          | ((with_reducible refine gate_dst (N := 10) rfl ?_); refine ev_box ?hg (N := 10) ?hd (cs := [.string ⟨#[]⟩, .slice none 0 0]) (t := 86) HS ?hr ?_; (case hd => rfl); (case hg => rfl); (case hr => first | (go_simp; done) | (go_simp; rfl)); intro rb w4 HS_ hg_rb; clear HS; have HS := HS_; clear HS_; clear k0 k1 k2)
          | ((with_reducible refine gate_ (.store 86 (.tmp 10) (.tmp 49)) rfl ?_); refine ev_store rfl rfl 86 (.tmp 10) (.tmp 49) rfl HS rfl rfl (seg := [.string km, .slice (some ⟨gi, 0, none⟩) vs.length ci]) rfl ?ht rfl ?hf ?_; (case ht => kernel_rfl); (case hf => simp); intro w5 HS_; clear HS; have HS : St w S w5 [HP.obj rb 86 [.string km, .slice (some ⟨gi, 0, none⟩) vs.length ci], HP.row kVn 131 (.slice (some ⟨gi, 0, none⟩) vs.length ci) vs, Sl.all ((inner rows us).eraseIdx i), HP.row kHt 51 u7 acc, HP.obj g 124 [.slice (some ⟨gr, 0, none⟩) rows.length cr], HP.row (raw 2) 86 (.slice (some ⟨gr, 0, none⟩) rows.length cr) (rowsC rows us), HP.obj pb 24 [.string a, .string b]] := HS_; clear HS_; have k3 : w5.cell? ⟨rb, 1, none⟩ = some (.slice (some ⟨gi, 0, none⟩) vs.length ci) := HS.cell 1))
        clear k3
        go_loopw [11] (fun v11 w' => ∃ k : Nat, k ≤ vs.length ∧ v11 = .int .i64 ((k : Int) - 1) ∧ Aside0 (∀ j (hj : j < vs.length), k ≤ j → ts < vs[j].ts) ∧ St w S w' [HP.obj rb 86 [.string km, .slice (some ⟨gi, 0, none⟩) vs.length ci], HP.row kVn 131 (.slice (some ⟨gi, 0, none⟩) vs.length ci) vs, Sl.all ((inner rows us).eraseIdx i), HP.row kHt 51 u7 acc, HP.obj g 124 [.slice (some ⟨gr, 0, none⟩) rows.length cr], HP.row (raw 2) 86 (.slice (some ⟨gr, 0, none⟩) rows.length cr) (rowsC rows us), HP.obj pb 24 [.string a, .string b]]) (fun v11 _ => (intOf v11 + 1).toNat)
        case atStart => exact ⟨vs.length, Nat.le_refl _, rfl, ⟨fun j hj h => by omega⟩, HS⟩
        case round =>
          clear HS
          obtain ⟨k, hk, rfl, HK, HS⟩ := hrel
          have hvl2 := row_max (HS.mv 1)
          rcases Nat.eq_zero_or_pos k with hk0 | hk0
          · subst hk0
            have hup := Aside0.mk (hit_none hlt HVS.out (upTo_none vs ts (fun j hj => HK.out j hj (Nat.zero_le _))))
            go_wp2
            go_roundw
            case rel =>
              have hA : span rows a b ts = acc ++ rest rows b ts (i + 1) := by (rw [HA.out, rest_step rows b ts i hlt (by rw [HKM.out]; exact hc), hup.out]) <;> simp
              exact ⟨i + 1, acc, by omega, by go_num, by omega, ⟨hA⟩, (((span_back HU.out i hlt HUI.out HVS.out (HS.out 0)).mv 3).mv 3).mv 3⟩
            case measure => simp [intOf]; omega
          · obtain ⟨m, rfl⟩ : ∃ m, k = m + 1 := ⟨k - 1, by omega⟩
            have hm : m < vs.length := by omega
            have hmI : (m : Int) < (vs.length : Int) := by omega
            have hm0 : (0 : Int) ≤ (m : Int) := by omega
            have hm1 : ((m + 1 : Nat) : Int) - 1 = (m : Int) := by omega
            have hm2 : IntKind.i64.wrap ((m : Int) - 1) = (m : Int) - 1 := IntWalk.i64_in _ (by omega)
            rw [hm1]
            obtain ⟨x, hx⟩ : ∃ x, vs[m] = x := ⟨_, rfl⟩
            obtain ⟨q4, q5, q6⟩ := vn_cells (HS.mv 1) m hm
            rw [hx] at q4 q5 q6
            have k3 : wr.cell? ⟨rb, 1, none⟩ = some (.slice (some ⟨gi, 0, none⟩) vs.length ci) := HS.cell 1
            have HXM := Aside0.mk hx
            clear hx
            by_cases ht : x.ts > ts
            · have htd : decide (x.ts > ts) = true := decide_eq_true ht
              have hnx := Aside0.mk (show ∀ j (hj : j < vs.length), m ≤ j → ts < vs[j].ts from fun j hj hjm => by
                by_cases e : j = m
                · subst e; rw [HXM.out]; exact ht
                · exact HK.out j hj (by omega))
              go_wp2
              go_roundw
              case rel => exact ⟨m, by omega, by go_num, hnx, HS⟩
              case measure => (simp [intOf]) <;> omega
            · have htd : decide (x.ts > ts) = false := decide_eq_false ht
              have hup := hit_some hlt HVS.out HKM.out (upTo_some vs ts m hm (by rw [HXM.out]; omega) (fun j hj hjm => HK.out j hj (by omega)))
              rw [HXM.out] at hup
              cases hd : x.dead
              · rw [hd] at q6 hup
                have HUP := Aside0.mk (show hitOf rows[i] ts = some ⟨km, x.ts, x.val⟩ from hup)
                clear hup hd
                go_wp2_with fail
                clear q4 q5 q6 k3
                refine start_ (n := 19) (S := fun w' => w'.cell? ⟨rb, 0, none⟩ = some (.string km) ∧ w'.cell? ⟨rb, 1, none⟩ = some (.slice (some ⟨gi, 0, none⟩) vs.length ci) ∧ w'.cell? ⟨gi, m * 3, none⟩ = some (.int .i64 x.ts) ∧ w'.cell? ⟨gi, m * 3 + 1, none⟩ = some (.string x.val)) (ds := []) #[false, false, false, false, false, false, false, false, false, false, false, false, false, false, false, false, false, false, false] (by kernel_rfl) rfl rfl ⟨HS.drew.cell 0, HS.drew.cell 1, (by rw [← HXM.out]; exact (vn_cells (HS.drew.mv 1) m hm).1), (by rw [← HXM.out]; exact (vn_cells (HS.drew.mv 1) m hm).2.1)⟩ (fun hHeld => ?_)
                refine pure_ (i := 0) (N := some 79) (v := ?_) (a' := ?_) #[true, false, false, false, false, false, false, false, false, false, false, false, false, false, false, false, false, false, false] rfl rfl (by kernel_rfl) (fun _ _ _ h => h) (Or.inl ⟨by rfl, ?_⟩) ?_ ?_
                rotate_left
                · intro w'
                  go_simp
                  with_reducible rfl
                rotate_left
                · simp only [Act.put, List.setIfInBounds_toArray, List.set_cons_zero, List.set_cons_succ, i64_w, i32_w]
                  rfl
                refine pure_ (i := 1) (N := some 80) (v := ?_) (a' := ?_) #[true, true, false, false, false, false, false, false, false, false, false, false, false, false, false, false, false, false, false] rfl rfl (by kernel_rfl) (fun _ _ _ h => h) (Or.inl ⟨by rfl, ?_⟩) ?_ ?_
                rotate_left
                · intro w'
                  go_simp
                  with_reducible rfl
                rotate_left
                · simp only [Act.put, List.setIfInBounds_toArray, List.set_cons_zero, List.set_cons_succ, i64_w, i32_w]
                  rfl
                refine pure_ (i := 3) (N := some 82) (v := ?_) (a' := ?_) #[true, true, false, true, false, false, false, false, false, false, false, false, false, false, false, false, false, false, false] rfl rfl (by kernel_rfl) (fun _ _ _ h => h) (Or.inl ⟨by rfl, ?_⟩) ?_ ?_
                rotate_left
                · intro w'
                  go_simp
                  with_reducible rfl
                rotate_left
                · simp only [Act.put, List.setIfInBounds_toArray, List.set_cons_zero, List.set_cons_succ, i64_w, i32_w]
                  rfl
                refine pure_ (i := 5) (N := some 84) (v := ?_) (a' := ?_) #[true, true, false, true, false, true, false, false, false, false, false, false, false, false, false, false, false, false, false] rfl rfl (by kernel_rfl) (fun _ _ _ h => h) (Or.inl ⟨by rfl, ?_⟩) ?_ ?_
                rotate_left
                · intro w'
                  go_simp
                  with_reducible rfl
                rotate_left
                · simp only [Act.put, List.setIfInBounds_toArray, List.set_cons_zero, List.set_cons_succ, i64_w, i32_w]
                  rfl
                refine pure_ (i := 9) (N := some 88) (v := ?_) (a' := ?_) #[true, true, false, true, false, true, false, false, false, true, false, false, false, false, false, false, false, false, false] rfl rfl (by kernel_rfl) (fun _ _ _ h => h) (Or.inl ⟨by rfl, ?_⟩) ?_ ?_
                rotate_left
                · intro w'
                  go_simp
                  with_reducible rfl
                rotate_left
                · simp only [Act.put, List.setIfInBounds_toArray, List.set_cons_zero, List.set_cons_succ, i64_w, i32_w]
                  rfl
                refine pure_ (i := 11) (N := some 90) (v := ?_) (a' := ?_) #[true, true, false, true, false, true, false, false, false, true, false, true, false, false, false, false, false, false, false] rfl rfl (by kernel_rfl) (fun _ _ _ h => h) (Or.inl ⟨by rfl, ?_⟩) ?_ ?_
                rotate_left
                · intro w'
                  go_simp
                  with_reducible rfl
                rotate_left
                · simp only [Act.put, List.setIfInBounds_toArray, List.set_cons_zero, List.set_cons_succ, i64_w, i32_w]
                  rfl
                refine take_ (i := 2) (N := some 81) (v := ?_) (a' := ?_) #[true, true, true, true, false, true, false, false, false, true, false, true, false, false, false, false, false, false, false] rfl rfl (by kernel_rfl) (fun _ _ _ h => h) (Or.inl ⟨by rfl, ?_⟩) hHeld ?_ ?_
                rotate_left
                · rintro w' ⟨s0, s1, s2, s3⟩
                  go_simp
                  with_reducible rfl
                rotate_left
                · simp only [Act.put, List.setIfInBounds_toArray, List.set_cons_zero, List.set_cons_succ, i64_w, i32_w]
                  rfl
                refine take_ (i := 4) (N := some 83) (v := ?_) (a' := ?_) #[true, true, true, true, true, true, false, false, false, true, false, true, false, false, false, false, false, false, false] rfl rfl (by kernel_rfl) (fun _ _ _ h => h) (Or.inl ⟨by rfl, ?_⟩) hHeld ?_ ?_
                rotate_left
                · rintro w' ⟨s0, s1, s2, s3⟩
                  go_simp
                  with_reducible rfl
                rotate_left
                · simp only [Act.put, List.setIfInBounds_toArray, List.set_cons_zero, List.set_cons_succ, i64_w, i32_w]
                  rfl
                refine pure_ (i := 6) (N := some 85) (v := ?_) (a' := ?_) #[true, true, true, true, true, true, true, false, false, true, false, true, false, false, false, false, false, false, false] rfl rfl (by kernel_rfl) (fun _ _ _ h => h) (Or.inl ⟨by rfl, ?_⟩) ?_ ?_
                rotate_left
                · intro w'
                  go_simp
                  with_reducible rfl
                rotate_left
                · simp only [Act.put, List.setIfInBounds_toArray, List.set_cons_zero, List.set_cons_succ, i64_w, i32_w]
                  rfl
                refine pure_ (i := 7) (N := some 86) (v := ?_) (a' := ?_) #[true, true, true, true, true, true, true, true, false, true, false, true, false, false, false, false, false, false, false] rfl rfl (by kernel_rfl) (fun _ _ _ h => h) (Or.inl ⟨by rfl, ?_⟩) ?_ ?_
                rotate_left
                · intro w'
                  go_simp
                  with_reducible rfl
                rotate_left
                · simp only [Act.put, List.setIfInBounds_toArray, List.set_cons_zero, List.set_cons_succ, i64_w, i32_w]
                  rfl
                refine take_ (i := 8) (N := some 87) (v := ?_) (a' := ?_) #[true, true, true, true, true, true, true, true, true, true, false, true, false, false, false, false, false, false, false] rfl rfl (by kernel_rfl) (fun _ _ _ h => h) (Or.inl ⟨by rfl, ?_⟩) hHeld ?_ ?_
                rotate_left
                · rintro w' ⟨s0, s1, s2, s3⟩
                  go_simp
                  with_reducible rfl
                rotate_left
                · simp only [Act.put, List.setIfInBounds_toArray, List.set_cons_zero, List.set_cons_succ, i64_w, i32_w]
                  rfl
                refine take_ (i := 10) (N := some 89) (v := ?_) (a' := ?_) #[true, true, true, true, true, true, true, true, true, true, true, true, false, false, false, false, false, false, false] rfl rfl (by kernel_rfl) (fun _ _ _ h => h) (Or.inl ⟨by rfl, ?_⟩) hHeld ?_ ?_
                rotate_left
                · rintro w' ⟨s0, s1, s2, s3⟩
                  go_simp
                  with_reducible rfl
                rotate_left
                · simp only [Act.put, List.setIfInBounds_toArray, List.set_cons_zero, List.set_cons_succ, i64_w, i32_w]
                  rfl
                refine pure_ (i := 12) (N := some 91) (v := ?_) (a' := ?_) #[true, true, true, true, true, true, true, true, true, true, true, true, true, false, false, false, false, false, false] rfl rfl (by kernel_rfl) (fun _ _ _ h => h) (Or.inl ⟨by rfl, ?_⟩) ?_ ?_
                rotate_left
                · intro w'
                  go_simp
                  with_reducible rfl
                rotate_left
                · simp only [Act.put, List.setIfInBounds_toArray, List.set_cons_zero, List.set_cons_succ, i64_w, i32_w]
                  rfl
                refine pure_ (i := 13) (N := some 92) (v := ?_) (a' := ?_) #[true, true, true, true, true, true, true, true, true, true, true, true, true, true, false, false, false, false, false] rfl rfl (by kernel_rfl) (fun _ _ _ h => h) (Or.inl ⟨by rfl, ?_⟩) ?_ ?_
                rotate_left
                · intro w'
                  go_simp
                  with_reducible rfl
                rotate_left
                · simp only [Act.put, List.setIfInBounds_toArray, List.set_cons_zero, List.set_cons_succ, i64_w, i32_w]
                  rfl
                refine take_ (i := 14) (N := some 93) (v := ?_) (a' := ?_) #[true, true, true, true, true, true, true, true, true, true, true, true, true, true, true, false, false, false, false] rfl rfl (by kernel_rfl) (fun _ _ _ h => h) (Or.inl ⟨by rfl, ?_⟩) hHeld ?_ ?_
                rotate_left
                · rintro w' ⟨s0, s1, s2, s3⟩
                  go_simp
                  with_reducible rfl
                rotate_left
                · simp only [Act.put, List.setIfInBounds_toArray, List.set_cons_zero, List.set_cons_succ, i64_w, i32_w]
                  rfl
                refine pure_ (i := 15) (N := some 94) (v := ?_) (a' := ?_) #[true, true, true, true, true, true, true, true, true, true, true, true, true, true, true, true, false, false, false] rfl rfl (by kernel_rfl) (fun _ _ _ h => h) (Or.inl ⟨by rfl, ?_⟩) ?_ ?_
                rotate_left
                · intro w'
                  go_simp
                  with_reducible rfl
                rotate_left
                · simp only [Act.put, List.setIfInBounds_toArray, List.set_cons_zero, List.set_cons_succ, i64_w, i32_w]
                  rfl
                refine one_ (i := 16) (N := some 95) #[true, true, true, true, true, true, true, true, true, true, true, true, true, true, true, true, true, false, false] rfl rfl (by kernel_rfl) (by decide) (fun K hK => ?_)
                have HS_ := HS.drew.lit (d := kHt) (e := 51) (xs := [(⟨km, x.ts, x.val⟩ : Ht)]) (inner := [.string km, .int .i64 x.ts, .string x.val]) (reps1_ (kHt_mkM _ _ _ (⟨km, x.ts, x.val⟩ : Ht)) rfl) (by simp)
                refine value_ (w1 := wr.drew.alloc (Obj.cells #[.string km, .int .i64 x.ts, .string x.val] 51)) (v := .slice (some ⟨wr.drew.heap.size, 0, none⟩) 1 1) (by rfl) rfl ?hrun ?_
                case hrun => first | (go_simp; done) | (go_simp; rfl)
                clear HS
                have HS := HS_
                clear HS_
                change St w S (wr.drew.alloc _) (HP.row kHt 51 (.slice (some ⟨wr.drew.heap.size, 0, none⟩) [(⟨km, x.ts, x.val⟩ : Ht)].length 1) [(⟨km, x.ts, x.val⟩ : Ht)] :: _) at HS
                generalize wr.drew.alloc (Obj.cells #[.string km, .int .i64 x.ts, .string x.val] 51) = w20 at HS ⊢
                generalize wr.drew.heap.size = gl at HS ⊢
                refine hK.out _ _ ⟨(HS.mv 1).cell 0, (HS.mv 1).cell 1, (by rw [← HXM.out]; exact (vn_cells (HS.mv 2) m hm).1), (by rw [← HXM.out]; exact (vn_cells (HS.mv 2) m hm).2.1)⟩ (fun hHeld => ?_)
                clear hK K
                refine norm_ (a' := ?_) ?_ ?_
                rotate_left
                · show Act.put _ (some 95) _ = _
                  simp only [Act.put, List.setIfInBounds_toArray, List.set_cons_zero, List.set_cons_succ, i64_w, i32_w]
                  rfl
                refine one_ (i := 17) (N := some 96) #[true, true, true, true, true, true, true, true, true, true, true, true, true, true, true, true, true, true, false] rfl rfl (by kernel_rfl) (by decide) (fun K hK => ?_)
                have HZ := HS.mv 4
                clear HS
                refine ev_rows_step kHt flatHt (by rfl) (.tmp 79) (.tmp 95) 47 51 _ 40 (by rfl) Try.underlying47 infoHt rfl (by decide) (by omega) u7 acc [(⟨km, x.ts, x.val⟩ : Ht)] _ 1 (by rfl) (by rfl) HZ (St.row_reads (HZ.mv 1)).2.2 (by simp only [List.length_singleton]; omega) ?_
                intro v96 w21 HS_
                clear HZ
                have HS := HS_
                clear HS_
                refine hK.out _ _ ⟨(HS.mv 2).cell 0, (HS.mv 2).cell 1, (by rw [← HXM.out]; exact (vn_cells (HS.mv 3) m hm).1), (by rw [← HXM.out]; exact (vn_cells (HS.mv 3) m hm).2.1)⟩ (fun hHeld => ?_)
                clear hK K
                refine norm_ (a' := ?_) ?_ ?_
                rotate_left
                · show Act.put _ (some 96) _ = _
                  simp only [Act.put, List.setIfInBounds_toArray, List.set_cons_zero, List.set_cons_succ, i64_w, i32_w]
                  rfl
                refine pure_ (i := 18) (N := some 7) (v := ?_) (a' := ?_) #[true, true, true, true, true, true, true, true, true, true, true, true, true, true, true, true, true, true, true] rfl rfl (by kernel_rfl) (fun _ _ _ h => h) (Or.inl ⟨by rfl, ?_⟩) ?_ ?_
                rotate_left
                · intro w'
                  go_simp
                  with_reducible rfl
                rotate_left
                · simp only [Act.put, List.setIfInBounds_toArray, List.set_cons_zero, List.set_cons_succ, i64_w, i32_w]
                  rfl
                refine done_ (by kernel_rfl) ?_
                clear hHeld
                have HS := (HS.out 2).out 1
                go_wp2
                go_roundw
                case rel =>
                  have hA : span rows a b ts = (acc ++ [(⟨km, x.ts, x.val⟩ : Ht)]) ++ rest rows b ts (i + 1) := by (rw [HA.out, rest_step rows b ts i hlt (by rw [HKM.out]; exact hc), HUP.out]) <;> simp
                  exact ⟨i + 1, (acc ++ [(⟨km, x.ts, x.val⟩ : Ht)]), by omega, by go_num, by (rw [List.length_append, List.length_singleton]; omega), ⟨hA⟩, (((span_back HU.out i hlt HUI.out HVS.out ((HS.mv 2).mv 2)).mv 3).mv 3).mv 3⟩
                case measure => simp [intOf]; omega
              · rw [hd] at q6 hup
                have HUP := Aside0.mk (show hitOf rows[i] ts = none from hup)
                clear hup hd
                go_wp2
                go_roundw
                case rel =>
                  have hA : span rows a b ts = acc ++ rest rows b ts (i + 1) := by (rw [HA.out, rest_step rows b ts i hlt (by rw [HKM.out]; exact hc), HUP.out]) <;> simp
                  exact ⟨i + 1, acc, by omega, by go_num, by omega, ⟨hA⟩, (((span_back HU.out i hlt HUI.out HVS.out (HS.out 0)).mv 3).mv 3).mv 3⟩
                case measure => simp [intOf]; omega
      · have hls : Op.bytesLess km.toList b.toList = false := by rw [bytesLess_cmp]; exact decide_eq_false hc
        have hst := Aside0.mk (rest_stop rows b ts i hlt (by rw [HKM.out]; exact hc))
        go_wp2_with fail
        go_quiet (fail)
        go_wp2
        go_ret
        exact ⟨_, rfl, by rw [HA.out, hst.out, List.append_nil]; exact (storeH_shut (((((HS.drewN _).out 4).mv 3).mv 3).mv 3)).mv 1⟩
    · obtain rfl : i = rows.length := by omega
      have hid : decide ((rows.length : Int) < (rows.length : Int)) = false := decide_eq_false (by omega)
      obtain ⟨A2, c2, ru, hcu, hCu⟩ := St.row_C (HS.mv 2)
      rw [rowsC_length HU.out] at ru
      subst ru
      clear hcu hCu
      have q0 : wr.cell? ⟨g, 0, none⟩ = some (.slice A2 rows.length c2) := (HS.mv 1).cell 0
      have hst := Aside0.mk (rest_end rows b ts rows.length (Nat.le_refl _))
      go_wp2_with fail
      go_quiet (fail)
      go_wp2
      go_ret
      exact ⟨_, rfl, by rw [HA.out, hst.out, List.append_nil]; exact (storeH_shut (((((HS.drewN _).out 4).mv 3).mv 3).mv 3)).mv 1⟩
end Go.Proofs.Ytphenpncdhgdhaa.Ver
