/- (*Store).Put, walked. -/
import Derived.Test.YtphenpncdhgdhaaNewW
import Derived.Test.YtphenpncdhgdhaaInsW
import Derived.Deep.DeepCutAuto
namespace Go.Proofs.Ytphenpncdhgdhaa.Ver
open Go.RowKit Go.Proofs.YtphenpncdhgdhaaW.PrintWords Go.Proofs.YtphenpncdhgdhaaW.PrintLast Go.Proofs.YtphenpncdhgdhaaW.PrintMore Go.Proofs.Ytphenpncdhgdhaa.Sl Go.Proofs.Ytphenpncdhgdhaa.Str
set_option linter.unusedVariables false
set_option linter.unusedSimpArgs false
/-- The rows behind the row's own making. -/
def midRows (rows : List Rw) (k : ByteArray) : List Rw := if there rows k = true then rows else rows.take (lb rows k) ++ ⟨k, []⟩ :: rows.drop (lb rows k)
theorem lb_le (rows : List Rw) (k : ByteArray) : lb rows k ≤ rows.length := (List.takeWhile_prefix _).length_le
theorem mid_at (rows : List Rw) (k : ByteArray) : ∃ h : lb rows k < (midRows rows k).length, ((midRows rows k)[lb rows k]).key = k := by
  unfold midRows
  by_cases h : there rows k = true
  · simp only [if_pos h]
    obtain ⟨h1, h2⟩ := there_at h
    exact ⟨h1, h2⟩
  · simp only [if_neg h]
    have hl := lb_le rows k
    have e : (rows.take (lb rows k)).length = lb rows k := by rw [List.length_take]; omega
    refine ⟨by simp; omega, ?_⟩
    simp [List.getElem_append, e]
theorem mid_put (rows : List Rw) (k : ByteArray) (v : Vn) (h : lb rows k < (midRows rows k).length) : (midRows rows k).set (lb rows k) ⟨((midRows rows k)[lb rows k]).key, ((midRows rows k)[lb rows k]).vs ++ [v]⟩ = putRows rows k v := by
  unfold putRows
  by_cases ht : there rows k = true
  · rw [if_pos ht]
    have e : midRows rows k = rows := by unfold midRows; rw [if_pos ht]
    simp only [e] at h ⊢
    apply List.ext_getElem?
    intro j
    rw [List.getElem?_modify, List.getElem?_set]
    by_cases ej : lb rows k = j
    · subst ej
      simp [h]
    · simp [ej]
  · rw [if_neg ht]
    have e : midRows rows k = rows.take (lb rows k) ++ ⟨k, []⟩ :: rows.drop (lb rows k) := by unfold midRows; rw [if_neg ht]
    have hl := lb_le rows k
    have e1 : (rows.take (lb rows k)).length = lb rows k := by rw [List.length_take]; omega
    simp only [e] at h ⊢
    rw [List.set_append_right _ _ (by omega), e1, Nat.sub_self, List.set_cons_zero]
    simp [List.getElem_append, e1]
theorem all_ins (A : HP) : ∀ (L : List HP) (i : Nat) (h : i ≤ L.length), Gives (HP.star A (Sl.all L)) (Sl.all (L.take i ++ A :: L.drop i))
  | L, 0, _ => Gives.refl _
  | [], i + 1, h => by simp at h
  | B :: L, i + 1, h => (Gives.swap _ _ _).trans ((Gives.refl B).star (all_ins A L i (by simpa using h)))
theorem zip_ins {α β γ : Type} (f : α → β → γ) (xs : List α) (ys : List β) (h : ys.length = xs.length) (i : Nat) (hi : i ≤ xs.length) (x : α) (y : β) :
    (List.zipWith f xs ys).take i ++ f x y :: (List.zipWith f xs ys).drop i = List.zipWith f (xs.take i ++ x :: xs.drop i) (ys.take i ++ y :: ys.drop i) := by
  rw [List.zipWith_append (by simp [h]), List.zipWith_cons_cons, List.take_zipWith, List.drop_zipWith]
-- THE WALK
theorem mid_vs (rows : List Rw) (k : ByteArray) (h : lb rows k < (midRows rows k).length) (n : Nat) (hv : ∀ r ∈ rows, (r.vs.length + 1) * 32 ≤ n) (h0 : 32 ≤ n) : (((midRows rows k)[lb rows k]).vs.length + 1) * 32 ≤ n := by
  by_cases ht : there rows k = true
  · have e : midRows rows k = rows := by unfold midRows; rw [if_pos ht]
    simp only [e] at h ⊢
    exact hv _ (List.getElem_mem h)
  · have e : midRows rows k = rows.take (lb rows k) ++ ⟨k, []⟩ :: rows.drop (lb rows k) := by unfold midRows; rw [if_neg ht]
    have hl := lb_le rows k
    have e1 : (rows.take (lb rows k)).length = lb rows k := by rw [List.length_take]; omega
    simp only [e] at h ⊢
    simp [List.getElem_append, e1]
    exact h0
theorem infoVn : (Try.prog.info? 131).map (fun i => (i.zero, i.size, i.bytes)) = some (some (.agg #[.int .i64 0, .string ⟨#[]⟩, .bool false]), 3, 32) := by kernel_rfl
theorem flatVn : Flat kVn := fun w b x cs h => by
  obtain rfl := kVn_open h
  exact kVn_mkM _ _ _ _
theorem reps1_ {α : Type} {R : α → List Value → Prop} {n : Nat} {x : α} {cs : List Value} (h : R x cs) (hl : cs.length = n) : Reps R n [x] cs := by
  have := (Reps.none R n).snoc h hl
  simpa using this
theorem rowsC_set {m2 : List Rw} {us : List Value} (hu : us.length = m2.length) (j : Nat) (hj : j < m2.length) {km : ByteArray} (hk : m2[j].key = km) {u' : Value} {vs' : List Vn} :
    (rowsC m2 us).set j [.string km, u'] = rowsC (m2.set j ⟨m2[j].key, vs'⟩) (us.set j u') := by
  apply List.ext_getElem?
  intro i
  have hl : (rowsC m2 us).length = m2.length := rowsC_length hu
  by_cases e : j = i
  · subst e
    simp [rowsC, List.getElem?_set, List.getElem?_zipWith, hj, hu, hk]
  · simp [rowsC, List.getElem?_set_ne e, List.getElem?_zipWith]
set_option maxHeartbeats 4000000 in
set_option maxRecDepth 20000 in
theorem put_fun (g : Nat) (u : Value) (rows : List Rw) (us : List Value) (hr : Rises rows) (hf : Full rows) (hu : us.length = rows.length) (hl : (rows.length + 1) * 40 ≤ 140737488355328) (hvl : ∀ r ∈ rows, (r.vs.length + 1) * 32 ≤ 140737488355328) (key : ByteArray) (v : Vn) :
    Fun Try.prog 59 #[.pointer (some ⟨g, 0, none⟩), .string key, .agg #[.int .i64 v.ts, .string v.val, .bool v.dead]] (fun _ => True) [storeH g u rows us]
      (fun r => [HP.ex fun u' : Value => HP.ex fun us' : List Value => HP.and (r = .int .i64 (putErr rows key v) ∧ us'.length = (put rows key v).length) (storeH g u' (put rows key v) us')]) := by
  intro w S hS hR
  have HS := storeH_open (St.start hS)
  clear hS hR
  have hu62 := Try.underlying124
  have hu53 := Try.underlying86
  have hu48 := Try.underlying74
  have hu51 := Try.underlying84
  have hu29 := Try.underlying131
  have hl0 : rows.length ≤ 140737488355328 := by omega
  have HVL := Aside0.mk hvl
  clear hvl
  by_cases h1 : v.ts < 1
  · have hd1 : decide (v.ts < 1) = true := decide_eq_true h1
    have hpe : putErr rows key v = 1 := by unfold putErr; rw [if_pos h1]
    have hp : put rows key v = rows := by unfold put; rw [hpe]; rfl
    have HPE := Aside0.mk hpe
    have HPU := Aside0.mk hp
    clear hpe hp
    go_enter Try.func59, Try.ntmps59
    go_wp2_with (first
      | ((with_reducible refine gate_dst (N := 5) rfl ?_); refine ev_box ?hg (N := 5) ?hd (cs := [.int .i64 v.ts, .string v.val, .bool v.dead]) (t := 131) HS ?hr ?_; (case hd => rfl); (case hg => rfl); (case hr => first | (go_simp; done) | (go_simp; rfl)); intro vb w1 HS_ hg_vb; clear HS; have HS := HS_; clear HS_; have q_vb_0 : w1.cell? ⟨vb, 0, none⟩ = some (.int .i64 v.ts) := HS.cell 0))
    go_ret
    exact ⟨_, rfl, St.ex_in u (St.ex_in us (St.and_in ⟨by rw [HPE.out]; rfl, by rw [HPU.out]; exact hu⟩ (by rw [HPU.out]; exact storeH_shut (HS.out 0))))⟩
  · have hd1 : decide (v.ts < 1) = false := decide_eq_false h1
    obtain ⟨nw, hnw⟩ : ∃ nw, newest rows key = nw := ⟨_, rfl⟩
    have hnew := Aside0.mk (newest_fun g u rows us hr hf hu hl0 key)
    rw [hnw] at hnew
    have HNW := Aside0.mk hnw
    clear hnw
    go_enter Try.func59, Try.ntmps59
    go_wp2_with (first
      | ((with_reducible refine gate_dst (N := 5) rfl ?_); refine ev_box ?hg (N := 5) ?hd (cs := [.int .i64 v.ts, .string v.val, .bool v.dead]) (t := 131) HS ?hr ?_; (case hd => rfl); (case hg => rfl); (case hr => first | (go_simp; done) | (go_simp; rfl)); intro vb w1 HS_ hg_vb; clear HS; have HS := HS_; clear HS_; have q_vb_0 : w1.cell? ⟨vb, 0, none⟩ = some (.int .i64 v.ts) := HS.cell 0))
    clear q_vb_0
    refine start_ (n := 7) (S := fun w' => w'.cell? ⟨vb, 0, none⟩ = some (.int .i64 v.ts)) (ds := []) #[false, false, false, false, false, false, false] (by kernel_rfl) rfl rfl (HS.drew.cell 0) (fun hHeld => ?_)
    refine pure_ (i := 0) (N := some 17) (v := ?_) (a' := ?_) #[true, false, false, false, false, false, false] rfl rfl (by kernel_rfl) (fun _ _ _ h => h) (Or.inl ⟨by rfl, ?_⟩) ?_ ?_
    rotate_left
    · intro w'
      go_simp
      with_reducible rfl
    rotate_left
    · simp only [Act.put, List.setIfInBounds_toArray, List.set_cons_zero, List.set_cons_succ, i64_w, i32_w]
      rfl
    refine pure_ (i := 2) (N := some 19) (v := ?_) (a' := ?_) #[true, false, true, false, false, false, false] rfl rfl (by kernel_rfl) (fun _ _ _ h => h) (Or.inl ⟨by rfl, ?_⟩) ?_ ?_
    rotate_left
    · intro w'
      go_simp
      with_reducible rfl
    rotate_left
    · simp only [Act.put, List.setIfInBounds_toArray, List.set_cons_zero, List.set_cons_succ, i64_w, i32_w]
      rfl
    refine pure_ (i := 3) (N := some 20) (v := ?_) (a' := ?_) #[true, false, true, true, false, false, false] rfl rfl (by kernel_rfl) (fun _ _ _ h => h) (Or.inl ⟨by rfl, ?_⟩) ?_ ?_
    rotate_left
    · intro w'
      go_simp
      with_reducible rfl
    rotate_left
    · simp only [Act.put, List.setIfInBounds_toArray, List.set_cons_zero, List.set_cons_succ, i64_w, i32_w]
      rfl
    refine take_ (i := 1) (N := some 18) (v := ?_) (a' := ?_) #[true, true, true, true, false, false, false] rfl rfl (by kernel_rfl) (fun _ _ _ h => h) (Or.inl ⟨by rfl, ?_⟩) hHeld ?_ ?_
    rotate_left
    · intro w' s0
      go_simp
      with_reducible rfl
    rotate_left
    · simp only [Act.put, List.setIfInBounds_toArray, List.set_cons_zero, List.set_cons_succ, i64_w, i32_w]
      rfl
    refine one_ (i := 4) (N := some 21) #[true, true, true, true, true, false, false] rfl rfl (by kernel_rfl) (by decide) (fun K hK => ?_)
    refine goes_ Try.func84 (by kernel_rfl) rfl #[.pointer (some ⟨g, 0, none⟩), .string key] (by rfl) rfl rfl (by simp only [List.map_toArray, List.map_cons, List.map_nil]; rfl) ?_
    refine (hnew.out.call (F := [HP.obj vb 131 [.int .i64 v.ts, .string v.val, .bool v.dead]]) (storeH_shut (((HS.drew.mv 3).mv 3).mv 3)) (fun _ _ _ _ => trivial)).mono ?_
    rintro e_ w2 ⟨rfl, HS_⟩
    refine ⟨_, rfl, ?_⟩
    have HS__ := (storeH_open HS_).mv 3
    clear HS HS_
    have HS := HS__
    clear HS__
    refine hK.out _ _ (HS.cell 0) (fun hHeld => ?_)
    clear hK K
    refine norm_ (a' := ?_) ?_ ?_
    rotate_left
    · show Act.put _ (some 21) _ = _
      simp only [Act.put, List.setIfInBounds_toArray, List.set_cons_zero, List.set_cons_succ, i64_w, i32_w]
      rfl
    refine pure_ (i := 5) (N := some 22) (v := ?_) (a' := ?_) #[true, true, true, true, true, true, false] rfl rfl (by kernel_rfl) (fun _ _ _ h => h) (Or.inl ⟨by rfl, ?_⟩) ?_ ?_
    rotate_left
    · intro w'
      go_simp
      with_reducible rfl
    rotate_left
    · simp only [Act.put, List.setIfInBounds_toArray, List.set_cons_zero, List.set_cons_succ, i64_w, i32_w]
      rfl
    refine pure_ (i := 6) (N := some 16) (v := ?_) (a' := ?_) #[true, true, true, true, true, true, true] rfl rfl (by kernel_rfl) (fun _ _ _ h => h) (Or.inl ⟨by rfl, ?_⟩) ?_ ?_
    rotate_left
    · intro w'
      go_simp
      with_reducible rfl
    rotate_left
    · simp only [Act.put, List.setIfInBounds_toArray, List.set_cons_zero, List.set_cons_succ, i64_w, i32_w]
      rfl
    refine done_ (by kernel_rfl) ?_
    clear hHeld
    by_cases h2 : v.ts ≤ nw
    · have hd2 : decide (v.ts ≤ nw) = true := decide_eq_true h2
      have hpe : putErr rows key v = 120 := by unfold putErr; rw [if_neg (by omega), HNW.out, if_pos h2]
      have hp : put rows key v = rows := by unfold put; rw [hpe]; rfl
      have HPE := Aside0.mk hpe
      have HPU := Aside0.mk hp
      clear hpe hp
      go_wp2
      go_ret
      exact ⟨_, rfl, St.ex_in u (St.ex_in us (St.and_in ⟨by rw [HPE.out]; rfl, by rw [HPU.out]; exact hu⟩ (by rw [HPU.out]; exact storeH_shut (HS.out 0))))⟩
    · have hd2 : decide (v.ts ≤ nw) = false := decide_eq_false h2
      have hpe : putErr rows key v = 0 := by unfold putErr; rw [if_neg (by omega), HNW.out, if_neg (by omega)]
      have hp : put rows key v = putRows rows key v := by unfold put; rw [if_pos hpe]
      have HPE := Aside0.mk hpe
      have HPU := Aside0.mk hp
      clear hpe hp hnew HNW hd1 h1
      go_wp2_with fail
      refine ((find_fun g u rows us hr hu hl0 key).call (F := [Sl.all (inner rows us), HP.obj vb 131 [.int .i64 v.ts, .string v.val, .bool v.dead]]) (((HS.mv 3).mv 3).mv 3) (fun _ _ _ _ => trivial)).mono ?_
      rintro e_ w3 ⟨rfl, HS_⟩
      clear HS hd2 h2
      have HS : St w S w3 [HP.obj g 124 [u], HP.row (raw 2) 86 u (rowsC rows us), Sl.all (inner rows us), HP.obj vb 131 [.int .i64 v.ts, .string v.val, .bool v.dead]] := HS_
      clear HS_
      obtain ⟨hmi, hmk⟩ := mid_at rows key
      obtain ⟨m2, hm2⟩ : ∃ m2, midRows rows key = m2 := ⟨_, rfl⟩
      obtain ⟨th, hth⟩ : ∃ th, there rows key = th := ⟨_, rfl⟩
      obtain ⟨ix, hix⟩ : ∃ ix, lb rows key = ix := ⟨_, rfl⟩
      have hile : ix ≤ rows.length := by rw [← hix]; exact lb_le _ _
      have HTH := Aside0.mk hth
      have HIX := Aside0.mk hix
      have HM2 := Aside0.mk hm2
      clear hmi hmk hm2
      rw [hth, hix]
      clear hth hix
      go_upto_if 30 with (fail)
      go_cut [] (fun wc => ∃ (u2 : Value) (us2 : List Value), Aside0 (us2.length = m2.length) ∧ St w S wc [HP.obj g 124 [u2], HP.row (raw 2) 86 u2 (rowsC m2 us2), Sl.all (inner m2 us2), HP.obj vb 131 [.int .i64 v.ts, .string v.val, .bool v.dead]])
      case first =>
        cases th
        · have e2 : m2 = rows.take ix ++ ⟨key, []⟩ :: rows.drop ix := by rw [← HM2.out]; unfold midRows; rw [HTH.out, HIX.out]; rfl
          have HE2 := Aside0.mk e2
          clear e2
          have q0 : w3.cell? ⟨g, 0, none⟩ = some u := HS.cell 0
          have hxl : (rowsC rows us).length = rows.length := rowsC_length hu
          have HXL := Aside0.mk hxl
          clear hxl
          go_wp2_with ((with_reducible refine gate_dst (N := 39) rfl ?_); refine ev_lit (raw 2) 86 ?hg (N := 39) ?hd (xs := [[.string key, .slice none 0 0]]) (inner := [.string key, .slice none 0 0]) HS ?hr ?hp (by simp) ?_; (case hd => rfl); (case hg => rfl); (case hr => first | (go_simp; done) | (go_simp; rfl)); (case hp => exact reps_raw (fun x hx => by obtain rfl := List.mem_singleton.1 hx; exact ⟨rfl, by simp [Value.oneCell']⟩) _ _ _); intro v39 w4 HS_; clear HS q0; have HS := HS_; clear HS_)
          refine ((ins_fun u v39 (rowsC rows us) [.string key, .slice none 0 0] ix (by rw [HXL.out]; exact hile) (by rw [HXL.out]; exact hl)).call (F := [HP.obj g 124 [u], Sl.all (inner rows us), HP.obj vb 131 [.int .i64 v.ts, .string v.val, .bool v.dead]]) (HS.mv 2) (fun _ _ _ _ => trivial)).mono ?_
          rintro e_ w5 ⟨u2, rfl, HS_⟩
          clear HS
          have HS := HS_
          clear HS_
          obtain ⟨XS, hXS⟩ : ∃ XS, (rowsC rows us).take ix ++ [.string key, .slice none 0 0] :: (rowsC rows us).drop ix = XS := ⟨_, rfl⟩
          rw [hXS] at HS
          obtain ⟨A2, c2, ru2, hc2, hC2⟩ := St.row_C HS
          obtain ⟨n3, hn3⟩ : ∃ n3, XS.length = n3 := ⟨_, rfl⟩
          rw [hn3] at ru2
          subst ru2
          have HXS := Aside0.mk hXS
          clear hC2 hc2 hn3 hXS
          go_wp2_with ((with_reducible refine gate_ (.store 74 (.tmp 42) (.tmp 40)) rfl ?_); refine ev_store rfl rfl 74 (.tmp 42) (.tmp 40) rfl (HS.mv 1) rfl rfl (seg := [.slice A2 n3 c2]) rfl ?ht rfl ?hf ?_; (case ht => kernel_rfl); (case hf => simp); intro w6 HS_; clear HS; have HS := HS_; clear HS_)
          go_meet
          have HS : St w S w6 (HP.obj g 124 [.slice A2 n3 c2] :: HP.row (raw 2) 86 (.slice A2 n3 c2) XS :: Sl.all (inner rows us) :: HP.obj vb 131 [.int .i64 v.ts, .string v.val, .bool v.dead] :: []) := HS
          have H1 := ((HS.mv 2).nil_ kVn 131).unstar.head (all_ins _ (inner rows us) ix (by simp [inner, hu]; exact hile))
          have e3 := zip_ins (fun (r : Rw) (u : Value) => HP.row kVn 131 u r.vs) rows us hu ix hile ⟨key, []⟩ (.slice none 0 0)
          have e4 := zip_ins (fun (r : Rw) (u : Value) => ([.string r.key, u] : List Value)) rows us hu ix hile ⟨key, []⟩ (.slice none 0 0)
          have e5 : (inner rows us).take ix ++ HP.row kVn 131 (.slice none 0 0) [] :: (inner rows us).drop ix = inner m2 (us.take ix ++ .slice none 0 0 :: us.drop ix) := by rw [HE2.out]; exact e3
          have e6 : XS = rowsC m2 (us.take ix ++ .slice none 0 0 :: us.drop ix) := by rw [← HXS.out, HE2.out]; exact e4
          rw [e5] at H1
          rw [e6] at H1
          exact ⟨.slice A2 n3 c2, us.take ix ++ .slice none 0 0 :: us.drop ix, ⟨by rw [HE2.out]; simp [hu]⟩, (H1.mv 2).mv 2⟩
        · have e2 : m2 = rows := by rw [← HM2.out]; unfold midRows; rw [HTH.out]; rfl
          subst e2
          go_wp2
          go_meet
          exact ⟨u, us, ⟨hu⟩, HS⟩
      case rest =>
        clear HS
        obtain ⟨u2, us2, HU2, HS⟩ := hcut
        have hmi : ix < m2.length := by obtain rfl := HM2.out; obtain rfl := HIX.out; exact (mid_at rows key).elim (fun h _ => h)
        have hui_ : ix < us2.length := by rw [HU2.out]; exact hmi
        obtain ⟨gr, cr, ev⟩ := St.row_form (HS.mv 1) (by rw [rowsC_length HU2.out]; omega)
        rw [rowsC_length HU2.out] at ev
        subst ev
        obtain ⟨ui, hui⟩ : ∃ ui, us2[ix] = ui := ⟨_, rfl⟩
        obtain ⟨vs, hvs⟩ : ∃ vs, m2[ix].vs = vs := ⟨_, rfl⟩
        obtain ⟨km, hkm⟩ : ∃ km, m2[ix].key = km := ⟨_, rfl⟩
        have hb32 : (vs.length + 1) * 32 ≤ 140737488355328 := by obtain rfl := HM2.out; obtain rfl := HIX.out; rw [← hvs]; exact mid_vs rows key hmi _ HVL.out (by omega)
        have hrc : (rowsC m2 us2)[ix]? = some [.string km, ui] := by rw [rows_cell HU2.out ix hmi, hui, hkm]
        have HI := st_pick (HS.mv 2) ix (inner_get HU2.out ix hmi)
        rw [hui, hvs] at HI
        clear HS
        have HS : St w S wc [HP.row kVn 131 ui vs, Sl.all ((inner m2 us2).eraseIdx ix), HP.obj g 124 [.slice (some ⟨gr, 0, none⟩) m2.length cr], HP.row (raw 2) 86 (.slice (some ⟨gr, 0, none⟩) m2.length cr) (rowsC m2 us2), HP.obj vb 131 [.int .i64 v.ts, .string v.val, .bool v.dead]] := HI
        clear HI
        have hmI : (ix : Int) < (m2.length : Int) := by omega
        have hm0 : (0 : Int) ≤ (ix : Int) := by omega
        have HRC := Aside0.mk hrc
        have HUI := Aside0.mk hui
        have HVS := Aside0.mk hvs
        have HKM := Aside0.mk hkm
        clear hrc hui hvs hkm
        go_wp2_with fail
        refine start_ (n := 19) (S := fun w' => w'.cell? ⟨g, 0, none⟩ = some (.slice (some ⟨gr, 0, none⟩) m2.length cr) ∧ w'.cell? ⟨gr, ix * 2 + 1, none⟩ = some ui ∧ w'.cell? ⟨vb, 0, none⟩ = some (.int .i64 v.ts) ∧ w'.cell? ⟨vb, 1, none⟩ = some (.string v.val) ∧ w'.cell? ⟨vb, 2, none⟩ = some (.bool v.dead)) (ds := [18]) #[false, false, false, false, false, false, false, false, false, false, false, false, false, false, false, false, false, false, false] (by kernel_rfl) rfl rfl ⟨(HS.drew.mv 2).cell 0, (St.raw_cell (HS.drew.mv 3) ix 1 HRC.out (by omega)).1, (HS.drew.mv 4).cell 0, (HS.drew.mv 4).cell 1, (HS.drew.mv 4).cell 2⟩ (fun hHeld => ?_)
        refine pure_ (i := 0) (N := some 43) (v := ?_) (a' := ?_) #[true, false, false, false, false, false, false, false, false, false, false, false, false, false, false, false, false, false, false] rfl rfl (by kernel_rfl) (fun _ _ _ h => h) (Or.inl ⟨by rfl, ?_⟩) ?_ ?_
        rotate_left
        · intro w'
          go_simp
          with_reducible rfl
        rotate_left
        · simp only [Act.put, List.setIfInBounds_toArray, List.set_cons_zero, List.set_cons_succ, i64_w, i32_w]
          rfl
        refine pure_ (i := 1) (N := some 44) (v := ?_) (a' := ?_) #[true, true, false, false, false, false, false, false, false, false, false, false, false, false, false, false, false, false, false] rfl rfl (by kernel_rfl) (fun _ _ _ h => h) (Or.inl ⟨by rfl, ?_⟩) ?_ ?_
        rotate_left
        · intro w'
          go_simp
          with_reducible rfl
        rotate_left
        · simp only [Act.put, List.setIfInBounds_toArray, List.set_cons_zero, List.set_cons_succ, i64_w, i32_w]
          rfl
        refine pure_ (i := 2) (N := some 45) (v := ?_) (a' := ?_) #[true, true, true, false, false, false, false, false, false, false, false, false, false, false, false, false, false, false, false] rfl rfl (by kernel_rfl) (fun _ _ _ h => h) (Or.inl ⟨by rfl, ?_⟩) ?_ ?_
        rotate_left
        · intro w'
          go_simp
          with_reducible rfl
        rotate_left
        · simp only [Act.put, List.setIfInBounds_toArray, List.set_cons_zero, List.set_cons_succ, i64_w, i32_w]
          rfl
        refine pure_ (i := 4) (N := some 47) (v := ?_) (a' := ?_) #[true, true, true, false, true, false, false, false, false, false, false, false, false, false, false, false, false, false, false] rfl rfl (by kernel_rfl) (fun _ _ _ h => h) (Or.inl ⟨by rfl, ?_⟩) ?_ ?_
        rotate_left
        · intro w'
          go_simp
          with_reducible rfl
        rotate_left
        · simp only [Act.put, List.setIfInBounds_toArray, List.set_cons_zero, List.set_cons_succ, i64_w, i32_w]
          rfl
        refine pure_ (i := 5) (N := some 48) (v := ?_) (a' := ?_) #[true, true, true, false, true, true, false, false, false, false, false, false, false, false, false, false, false, false, false] rfl rfl (by kernel_rfl) (fun _ _ _ h => h) (Or.inl ⟨by rfl, ?_⟩) ?_ ?_
        rotate_left
        · intro w'
          go_simp
          with_reducible rfl
        rotate_left
        · simp only [Act.put, List.setIfInBounds_toArray, List.set_cons_zero, List.set_cons_succ, i64_w, i32_w]
          rfl
        refine pure_ (i := 6) (N := some 49) (v := ?_) (a' := ?_) #[true, true, true, false, true, true, true, false, false, false, false, false, false, false, false, false, false, false, false] rfl rfl (by kernel_rfl) (fun _ _ _ h => h) (Or.inl ⟨by rfl, ?_⟩) ?_ ?_
        rotate_left
        · intro w'
          go_simp
          with_reducible rfl
        rotate_left
        · simp only [Act.put, List.setIfInBounds_toArray, List.set_cons_zero, List.set_cons_succ, i64_w, i32_w]
          rfl
        refine pure_ (i := 7) (N := some 50) (v := ?_) (a' := ?_) #[true, true, true, false, true, true, true, true, false, false, false, false, false, false, false, false, false, false, false] rfl rfl (by kernel_rfl) (fun _ _ _ h => h) (Or.inl ⟨by rfl, ?_⟩) ?_ ?_
        rotate_left
        · intro w'
          go_simp
          with_reducible rfl
        rotate_left
        · simp only [Act.put, List.setIfInBounds_toArray, List.set_cons_zero, List.set_cons_succ, i64_w, i32_w]
          rfl
        refine pure_ (i := 9) (N := some 52) (v := ?_) (a' := ?_) #[true, true, true, false, true, true, true, true, false, true, false, false, false, false, false, false, false, false, false] rfl rfl (by kernel_rfl) (fun _ _ _ h => h) (Or.inl ⟨by rfl, ?_⟩) ?_ ?_
        rotate_left
        · intro w'
          go_simp
          with_reducible rfl
        rotate_left
        · simp only [Act.put, List.setIfInBounds_toArray, List.set_cons_zero, List.set_cons_succ, i64_w, i32_w]
          rfl
        refine take_ (i := 3) (N := some 46) (v := ?_) (a' := ?_) #[true, true, true, true, true, true, true, true, false, true, false, false, false, false, false, false, false, false, false] rfl rfl (by kernel_rfl) (fun _ _ _ h => h) (Or.inl ⟨by rfl, ?_⟩) hHeld ?_ ?_
        rotate_left
        · rintro w' ⟨s0, s1, s2, s3, s4⟩
          go_simp
          with_reducible rfl
        rotate_left
        · simp only [Act.put, List.setIfInBounds_toArray, List.set_cons_zero, List.set_cons_succ, i64_w, i32_w]
          rfl
        refine take_ (i := 8) (N := some 51) (v := ?_) (a' := ?_) #[true, true, true, true, true, true, true, true, true, true, false, false, false, false, false, false, false, false, false] rfl rfl (by kernel_rfl) (fun _ _ _ h => h) (Or.inl ⟨by rfl, ?_⟩) hHeld ?_ ?_
        rotate_left
        · rintro w' ⟨s0, s1, s2, s3, s4⟩
          go_simp
          with_reducible rfl
        rotate_left
        · simp only [Act.put, List.setIfInBounds_toArray, List.set_cons_zero, List.set_cons_succ, i64_w, i32_w]
          rfl
        refine pure_ (i := 10) (N := some 53) (v := ?_) (a' := ?_) #[true, true, true, true, true, true, true, true, true, true, true, false, false, false, false, false, false, false, false] rfl rfl (by kernel_rfl) (fun _ _ _ h => h) (Or.inl ⟨by rfl, ?_⟩) ?_ ?_
        rotate_left
        · intro w'
          go_simp
          with_reducible rfl
        rotate_left
        · simp only [Act.put, List.setIfInBounds_toArray, List.set_cons_zero, List.set_cons_succ, i64_w, i32_w]
          rfl
        refine pure_ (i := 11) (N := some 54) (v := ?_) (a' := ?_) #[true, true, true, true, true, true, true, true, true, true, true, true, false, false, false, false, false, false, false] rfl rfl (by kernel_rfl) (fun _ _ _ h => h) (Or.inl ⟨by rfl, ?_⟩) ?_ ?_
        rotate_left
        · intro w'
          go_simp
          with_reducible rfl
        rotate_left
        · simp only [Act.put, List.setIfInBounds_toArray, List.set_cons_zero, List.set_cons_succ, i64_w, i32_w]
          rfl
        refine take_ (i := 12) (N := some 55) (v := ?_) (a' := ?_) #[true, true, true, true, true, true, true, true, true, true, true, true, true, false, false, false, false, false, false] rfl rfl (by kernel_rfl) (fun _ _ _ h => h) (Or.inl ⟨by rfl, ?_⟩) hHeld ?_ ?_
        rotate_left
        · rintro w' ⟨s0, s1, s2, s3, s4⟩
          go_simp
          with_reducible rfl
        rotate_left
        · simp only [Act.put, List.setIfInBounds_toArray, List.set_cons_zero, List.set_cons_succ, i64_w, i32_w]
          rfl
        refine take_ (i := 13) (N := some 56) (v := ?_) (a' := ?_) #[true, true, true, true, true, true, true, true, true, true, true, true, true, true, false, false, false, false, false] rfl rfl (by kernel_rfl) (fun _ _ _ h => h) (Or.inl ⟨by rfl, ?_⟩) hHeld ?_ ?_
        rotate_left
        · rintro w' ⟨s0, s1, s2, s3, s4⟩
          go_simp
          with_reducible rfl
        rotate_left
        · simp only [Act.put, List.setIfInBounds_toArray, List.set_cons_zero, List.set_cons_succ, i64_w, i32_w]
          rfl
        refine one_ (i := 14) (N := some 57) #[true, true, true, true, true, true, true, true, true, true, true, true, true, true, true, false, false, false, false] rfl rfl (by kernel_rfl) (by decide) (fun K hK => ?_)
        have HS_ := HS.drew.lit (d := kVn) (e := 131) (xs := [v]) (inner := [.int .i64 v.ts, .string v.val, .bool v.dead]) (reps1_ (kVn_mkM _ _ _ v) rfl) (by simp)
        refine value_ (w1 := wc.drew.alloc (Obj.cells #[.int .i64 v.ts, .string v.val, .bool v.dead] 131)) (v := .slice (some ⟨wc.drew.heap.size, 0, none⟩) 1 1) (by rfl) rfl ?hrun ?_
        case hrun => first | (go_simp; done) | (go_simp; rfl)
        clear HS
        have HS := HS_
        clear HS_
        change St w S (wc.drew.alloc _) (HP.row kVn 131 (.slice (some ⟨wc.drew.heap.size, 0, none⟩) [v].length 1) [v] :: _) at HS
        generalize wc.drew.alloc (Obj.cells #[.int .i64 v.ts, .string v.val, .bool v.dead] 131) = w10 at HS ⊢
        generalize wc.drew.heap.size = gl at HS ⊢
        refine hK.out _ _ ⟨(HS.mv 3).cell 0, (St.raw_cell (HS.mv 4) ix 1 HRC.out (by omega)).1, (HS.mv 5).cell 0, (HS.mv 5).cell 1, (HS.mv 5).cell 2⟩ (fun hHeld => ?_)
        clear hK K
        refine norm_ (a' := ?_) ?_ ?_
        rotate_left
        · show Act.put _ (some 57) _ = _
          simp only [Act.put, List.setIfInBounds_toArray, List.set_cons_zero, List.set_cons_succ, i64_w, i32_w]
          rfl
        refine one_ (i := 15) (N := some 58) #[true, true, true, true, true, true, true, true, true, true, true, true, true, true, true, true, false, false, false] rfl rfl (by kernel_rfl) (by decide) (fun K hK => ?_)
        refine ev_rows_step kVn flatVn (by rfl) (.tmp 55) (.tmp 57) 84 131 _ 32 (by rfl) Try.underlying84 infoVn rfl (by decide) (by omega) ui vs [v] _ 1 (by rfl) (by rfl) (HS.mv 1) (St.row_reads HS).2.2 (by simpa using hb32) ?_
        intro v58 w11 HS_
        clear HS
        have HS := HS_
        clear HS_
        obtain ⟨A58, c58, rv58, hc58, hC58⟩ := St.row_C HS
        obtain ⟨n58, hn58⟩ : ∃ n58, (vs ++ [v]).length = n58 := ⟨_, rfl⟩
        rw [hn58] at rv58
        subst rv58
        clear hC58 hc58 hn58
        refine hK.out _ _ ⟨(HS.mv 3).cell 0, (St.raw_cell (HS.mv 4) ix 1 HRC.out (by omega)).1, (HS.mv 5).cell 0, (HS.mv 5).cell 1, (HS.mv 5).cell 2⟩ (fun hHeld => ?_)
        clear hK K
        refine norm_ (a' := ?_) ?_ ?_
        rotate_left
        · show Act.put _ (some 58) _ = _
          simp only [Act.put, List.setIfInBounds_toArray, List.set_cons_zero, List.set_cons_succ, i64_w, i32_w]
          rfl
        refine pure_ (i := 16) (N := some 59) (v := ?_) (a' := ?_) #[true, true, true, true, true, true, true, true, true, true, true, true, true, true, true, true, true, false, false] rfl rfl (by kernel_rfl) (fun _ _ _ h => h) (Or.inl ⟨by rfl, ?_⟩) ?_ ?_
        rotate_left
        · intro w'
          go_simp
          with_reducible rfl
        rotate_left
        · simp only [Act.put, List.setIfInBounds_toArray, List.set_cons_zero, List.set_cons_succ, i64_w, i32_w]
          rfl
        refine pure_ (i := 17) (N := some 60) (v := ?_) (a' := ?_) #[true, true, true, true, true, true, true, true, true, true, true, true, true, true, true, true, true, true, false] rfl rfl (by kernel_rfl) (fun _ _ _ h => h) (Or.inl ⟨by rfl, ?_⟩) ?_ ?_
        rotate_left
        · intro w'
          go_simp
          with_reducible rfl
        rotate_left
        · simp only [Act.put, List.setIfInBounds_toArray, List.set_cons_zero, List.set_cons_succ, i64_w, i32_w]
          rfl
        refine last_ (i := 18) (N := none) #[true, true, true, true, true, true, true, true, true, true, true, true, true, true, true, true, true, true, true] rfl rfl (by kernel_rfl) (by decide) (fun K hK => ?_)
        have qc : w11.cell? ⟨gr, ix * 2 + 1, none⟩ = some ui := (St.raw_cell (HS.mv 4) ix 1 HRC.out (by omega)).1
        have qf := (St.raw_cell (HS.mv 4) ix 1 HRC.out (by omega)).2
        refine skip_ (w1 := w11.setCell ⟨gr, ix * 2 + 1, none⟩ (.slice A58 n58 c58)) (by rfl) rfl ?hrun ?_
        case hrun => first | (go_simp; done) | (go_simp; rfl)
        have HS_ := St.raw_set (HS.mv 4) ix 1 HRC.out (by omega) (.slice A58 n58 c58) rfl
        clear HS qc qf
        have HS := HS_
        clear HS_
        generalize w11.setCell ⟨gr, ix * 2 + 1, none⟩ (.slice A58 n58 c58) = w12 at HS ⊢
        refine hK.out _ _ ?_
        clear hK K
        refine done_ (by kernel_rfl) ?_
        try clear hHeld
        go_wp2
        go_ret
        have HS : St w S w12 [HP.row (raw 2) 86 (.slice (some ⟨gr, 0, none⟩) m2.length cr) ((rowsC m2 us2).set ix [.string km, .slice A58 n58 c58]), HP.row kVn 131 (.slice A58 n58 c58) (vs ++ [v]), HP.row kVn 131 (.slice (some ⟨gl, 0, none⟩) [v].length 1) [v], Sl.all ((inner m2 us2).eraseIdx ix), HP.obj g 124 [.slice (some ⟨gr, 0, none⟩) m2.length cr], HP.obj vb 131 [.int .i64 v.ts, .string v.val, .bool v.dead]] := HS
        have H1 := ((HS.out 5).out 2)
        have H2 := st_back (L := inner m2 us2) ix (by simp [inner, HU2.out]; exact hmi) ((H1.mv 2).mv 2)
        rw [inner_set m2 us2 HU2.out ix hmi] at H2
        rw [rowsC_set (vs' := vs ++ [v]) HU2.out ix hmi HKM.out] at H2
        rw [← HVS.out] at H2
        refine ⟨_, rfl, St.ex_in (.slice (some ⟨gr, 0, none⟩) m2.length cr) (St.ex_in (us2.set ix (.slice A58 n58 c58)) ?_)⟩
        obtain rfl := HM2.out
        obtain rfl := HIX.out
        rw [mid_put rows key v hmi] at H2
        rw [HPU.out]
        refine St.and_in ⟨by rw [HPE.out]; rfl, ?_⟩ (storeH_shut ((H2.mv 1).mv 2))
        rw [List.length_set, HU2.out, ← mid_put rows key v hmi, List.length_set]
end Go.Proofs.Ytphenpncdhgdhaa.Ver
