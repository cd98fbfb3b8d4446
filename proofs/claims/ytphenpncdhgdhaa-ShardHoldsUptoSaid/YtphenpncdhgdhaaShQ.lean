/- The shard, plain: what its commands keep. -/
import Derived.Test.YtphenpncdhgdhaaShP
namespace Go.Proofs.Ytphenpncdhgdhaa.Shd
open Go.Proofs.Ytphenpncdhgdhaa.Str Go.Proofs.Ytphenpncdhgdhaa.Ver Go.Proofs.Ytphenpncdhgdhaa.Sl
set_option linter.unusedVariables false
set_option linter.unusedSimpArgs false
theorem ups_last {l : List Vn} (h : l.Pairwise (fun v w => v.ts < w.ts)) {v : Vn} (hv : v ∈ l) : v.ts ≤ lastTs l := by
  unfold lastTs
  cases hl : l.getLast? with
  | none => rw [List.getLast?_eq_none_iff] at hl; rw [hl] at hv; simp at hv
  | some x =>
    rcases List.mem_iff_getElem.1 hv with ⟨i, hi, rfl⟩
    rw [List.getLast?_eq_getElem?] at hl
    obtain ⟨hj, e⟩ := List.getElem?_eq_some_iff.1 hl
    by_cases hij : i = l.length - 1
    · subst hij
      have : l[l.length - 1] = x := e
      rw [this]
      exact Int.le_refl _
    · have := List.pairwise_iff_getElem.1 h i (l.length - 1) hi hj (by omega)
      rw [e] at this
      exact Int.le_of_lt this
theorem put_ups {rows : List Rw} (hr : Rises rows) (hu : Ups rows) (k : ByteArray) (v : Vn) : Ups (put rows k v) := by
  unfold put
  split
  · rename_i h0
    cases ht : there rows k with
    | false =>
      rw [putRows_new rows k v ht]
      intro r hm
      rcases List.mem_append.1 hm with hm | hm
      · exact hu r (List.mem_of_mem_take hm)
      · rcases List.mem_cons.1 hm with rfl | hm
        · simp
        · exact hu r (List.mem_of_mem_drop hm)
    | true =>
      obtain ⟨A, B, vs, e, hl, _, _⟩ := there_split rows hr k ht
      rw [putRows_there rows k v ht e hl]
      have hrow : rows[lb rows k]? = some ⟨k, vs⟩ := by rw [← hl, e, List.getElem?_append_right (Nat.le_refl _), Nat.sub_self]; rfl
      have hn : newest rows k = lastTs vs := by unfold newest; rw [if_pos ht, hrow]
      have hlt : lastTs vs < v.ts := by
        unfold putErr at h0
        rw [hn] at h0
        split at h0
        · omega
        · split at h0
          · omega
          · omega
      have hvs : vs.Pairwise (fun v w => v.ts < w.ts) := hu ⟨k, vs⟩ (List.mem_of_getElem? hrow)
      intro r hm
      rcases List.mem_append.1 hm with hm | hm
      · exact hu r (by rw [e]; exact List.mem_append_left _ hm)
      · rcases List.mem_cons.1 hm with rfl | hm
        · refine List.pairwise_append.2 ⟨hvs, by simp, fun a ha b hb => ?_⟩
          rw [List.mem_singleton.1 hb]
          have := ups_last hvs ha
          omega
        · exact hu r (by rw [e]; exact List.mem_append_right _ (List.mem_cons_of_mem _ hm))
  · exact hu
theorem put_keys {rows : List Rw} (hr : Rises rows) (k : ByteArray) (v : Vn) {r : Rw} (h : r ∈ put rows k v) : r.key = k ∨ ∃ q ∈ rows, q.key = r.key := by
  unfold put at h
  split at h
  · cases ht : there rows k with
    | false =>
      rw [putRows_new rows k v ht] at h
      rcases List.mem_append.1 h with hm | hm
      · exact .inr ⟨r, List.mem_of_mem_take hm, rfl⟩
      · rcases List.mem_cons.1 hm with rfl | hm
        · exact .inl rfl
        · exact .inr ⟨r, List.mem_of_mem_drop hm, rfl⟩
    | true =>
      obtain ⟨A, B, vs, e, hl, _, _⟩ := there_split rows hr k ht
      rw [putRows_there rows k v ht e hl] at h
      rcases List.mem_append.1 h with hm | hm
      · exact .inr ⟨r, by rw [e]; exact List.mem_append_left _ hm, rfl⟩
      · rcases List.mem_cons.1 hm with rfl | hm
        · exact .inl rfl
        · exact .inr ⟨r, by rw [e]; exact List.mem_append_right _ (List.mem_cons_of_mem _ hm), rfl⟩
  · exact .inr ⟨r, h, rfl⟩
/-- What a store keeps, with what it holds. -/
structure Sto (rows : List Rw) (n : Nat) : Prop where
  rises : Rises rows
  full : Full rows
  ups : Ups rows
  tv : tv rows ≤ n
  kr : ∀ r ∈ rows, r.key.size ≤ 140737488351232
theorem Sto.put {rows : List Rw} {n : Nat} (h : Sto rows n) (k : ByteArray) (hk : k.size ≤ 140737488351232) (v : Vn) : Sto (put rows k v) (n + 1) :=
  ⟨put_rises rows h.rises k v, put_full rows h.rises h.full k v, put_ups h.rises h.ups k v, Nat.le_trans (tv_put rows h.rises k v) (by have := h.tv; omega), fun r hr => by
    rcases put_keys h.rises k v hr with e | ⟨q, hq, e⟩
    · rw [e]; exact hk
    · rw [← e]; exact h.kr q hq⟩
theorem Sto.puts {ts : Int} : ∀ (ws : List Wr) {rows : List Rw} {n : Nat} (h : Sto rows n) (hk : ∀ w ∈ ws, w.key.size ≤ 140737488351232), Sto (ws.foldl (fun r w => Ver.put r w.key ⟨ts, w.val, w.dead⟩) rows) (n + ws.length)
  | [], rows, n, h, hk => h
  | w :: ws, rows, n, h, hk => by
    have := Sto.puts (ts := ts) ws (h.put w.key (hk w (.head _)) ⟨ts, w.val, w.dead⟩) (fun x hx => hk x (.tail _ hx))
    rw [List.length_cons, show n + (ws.length + 1) = n + 1 + ws.length by omega]
    exact this
theorem Sto.putW {ts : Int} (ws : List Wr) {rows : List Rw} {n : Nat} (h : Sto rows n) (hk : ∀ w ∈ ws, w.key.size ≤ 140737488351232) : Sto (putW ts rows ws) (n + ws.length) := by
  unfold Shd.putW
  split
  · exact Sto.puts ws h hk
  · exact ⟨h.rises, h.full, h.ups, by have := h.tv; omega, h.kr⟩
theorem recOf_none {rcs : List Rc} {t : Td} (h : recOf rcs t = none) : t ∉ rcs.map (·.t) := by
  unfold recOf at h
  rw [Option.map_eq_none_iff, List.find?_eq_none] at h
  intro hm
  obtain ⟨r, hr, e⟩ := List.mem_map.1 hm
  have := h r hr
  simp [e] at this
theorem hasLk_false {lks : List Lk} {t : Td} (h : hasLk lks t = false) : t ∉ lks.map (·.t) := by
  intro hm
  obtain ⟨l, hl, e⟩ := List.mem_map.1 hm
  have hlen : lks.length ≤ lkN lks t := by simpa [hasLk] using h
  unfold lkN at hlen
  have hp := List.takeWhile_prefix (fun x : Lk => !decide (x.t = t)) (l := lks)
  have he := hp.eq_of_length_le hlen
  rw [← he] at hl
  have := List.all_eq_true.1 (List.all_takeWhile (p := fun x : Lk => !decide (x.t = t)) (l := lks)) l hl
  simp [e] at this
theorem fit_note {m : Sh} {n : Nat} (h : Fit m n) {t : Td} {ts : Int} (hr : recOf m.rcs t = none) (h0 : 0 ≤ ts) : Fit (noteP m t ts) (n + 1) := by
  have hm := h.mono (Nat.le_succ n)
  refine ⟨hm.rises, hm.full, hm.ups, hm.pot, hm.lks, hm.each, ?_, hm.ov, hm.kr, hm.kw, hm.lkd, ?_, hm.ovd, ?_, hm.high⟩
  · show (m.rcs ++ [_]).length ≤ n + 1
    have := h.rcs
    simp only [List.length_append, List.length_singleton]
    omega
  · show ((m.rcs ++ [(⟨t, ts⟩ : Rc)]).map (·.t)).Nodup
    rw [List.map_append]
    refine List.nodup_append.2 ⟨h.rcd, by simp, fun a ha b hb e => ?_⟩
    have hb' : b = t := by simpa using hb
    exact recOf_none hr (by rw [← hb', ← e]; exact ha)
  · intro r hr
    rcases List.mem_append.1 hr with hr | hr
    · exact h.rc0 r hr
    · rw [List.mem_singleton.1 hr]; exact h0
theorem lw_app (A B : List Lk) : lw (A ++ B) = lw A + lw B := by simp [lw]
theorem lw_erase {lks : List Lk} {i : Nat} {l : Lk} (h : lks[i]? = some l) : lw (lks.eraseIdx i) + l.wrs.length = lw lks := by
  induction lks generalizing i with
  | nil => simp at h
  | cons q r ih =>
    cases i with
    | zero =>
      simp only [List.getElem?_cons_zero, Option.some.injEq] at h
      subst h
      simp only [List.eraseIdx_cons_zero, lw, List.map_cons, List.sum_cons]
      omega
    | succ i =>
      have := ih (by simpa using h)
      simp only [List.eraseIdx_cons_succ, lw, List.map_cons, List.sum_cons] at this ⊢
      omega
theorem Fit.sto {m : Sh} {n : Nat} (h : Fit m n) : Sto m.rows (tv m.rows) := ⟨h.rises, h.full, h.ups, Nat.le_refl _, h.kr⟩
theorem fit_prep {m : Sh} {n : Nat} (h : Fit m n) (c : Cm) (hk : ∀ w ∈ c.wrs, w.key.size ≤ 140737488351232) : Fit (prepP m c).1 (n + wt c) := by
  have hm : Fit m (n + wt c) := h.mono (Nat.le_add_right _ _)
  unfold prepP
  split
  · exact hm
  · split
    · exact hm
    · rename_i hno
      split
      · split
        · have hno : hasLk m.lks c.t = false := by simpa using hno
          refine ⟨hm.rises, hm.full, hm.ups, ?_, ?_, ?_, hm.rcs, hm.ov, hm.kr, ?_, ?_, hm.rcd, hm.ovd, hm.rc0, hm.high⟩
          · show tv m.rows + lw (m.lks ++ [lockOf c]) ≤ _
            rw [lw_app]
            have := h.pot
            simp only [lw, lockOf, wt, List.map_cons, List.map_nil, List.sum_cons, List.sum_nil] at this ⊢
            omega
          · show (m.lks ++ [lockOf c]).length ≤ _
            have := h.lks
            simp only [List.length_append, List.length_singleton, wt]
            omega
          · intro l hl
            rcases List.mem_append.1 hl with hl | hl
            · exact hm.each l hl
            · rw [List.mem_singleton.1 hl]
              simp only [lockOf, List.length_map, wt]
              omega
          · intro l hl
            rcases List.mem_append.1 hl with hl | hl
            · exact hm.kw l hl
            · rw [List.mem_singleton.1 hl]; exact hk
          · show ((m.lks ++ [lockOf c]).map (·.t)).Nodup
            rw [List.map_append]
            refine List.nodup_append.2 ⟨h.lkd, by simp, fun a ha b hb e => ?_⟩
            have hb' : b = c.t := by simpa [lockOf] using hb
            exact hasLk_false hno (by rw [← hb', ← e]; exact ha)
        · exact hm
      · exact hm
theorem fit_resolve {m : Sh} {n : Nat} (h : Fit m n) (c : Cm) : Fit (resolveP m c).1 (n + wt c) := by
  have hm : Fit m (n + wt c) := h.mono (Nat.le_add_right _ _)
  unfold resolveP
  split
  · exact hm
  · rename_i hno
    have hw1 : 1 ≤ wt c := by unfold wt; omega
    have key : Sto (resRows m c) (n - lw (m.lks.eraseIdx (lkN m.lks c.t))) ∧ lw (m.lks.eraseIdx (lkN m.lks c.t)) ≤ n := by
      have hp := h.pot
      cases hl : m.lks[lkN m.lks c.t]? with
      | none =>
        have hlen : m.lks.length ≤ lkN m.lks c.t := List.getElem?_eq_none_iff.1 hl
        rw [List.eraseIdx_of_length_le hlen]
        unfold resRows
        rw [hl]
        dsimp only
        exact ⟨⟨h.rises, h.full, h.ups, by omega, h.kr⟩, by omega⟩
      | some l =>
        have he := lw_erase hl
        unfold resRows
        rw [hl]
        dsimp only
        have hs := Sto.putW (ts := c.ts) l.wrs h.sto (h.kw l (List.mem_of_getElem? hl))
        exact ⟨⟨hs.rises, hs.full, hs.ups, by have := hs.tv; omega, hs.kr⟩, by omega⟩
    obtain ⟨hs, hle⟩ := key
    have hmem : ∀ l ∈ m.lks.eraseIdx (lkN m.lks c.t), l ∈ m.lks := fun l hl => List.mem_of_mem_eraseIdx hl
    refine ⟨hs.rises, hs.full, hs.ups, ?_, ?_, fun l hl => hm.each l (hmem l hl), hm.rcs, ?_, hs.kr, fun l hl => hm.kw l (hmem l hl), ?_, hm.rcd, ?_, hm.rc0, ?_⟩
    · show tv (resRows m c) + lw (m.lks.eraseIdx (lkN m.lks c.t)) ≤ n + wt c
      have := hs.tv
      omega
    · show (m.lks.eraseIdx (lkN m.lks c.t)).length ≤ n + wt c
      have := h.lks
      have := List.length_eraseIdx_le m.lks (lkN m.lks c.t)
      omega
    · show (m.ov ++ [c.t]).length ≤ n + wt c
      have := h.ov
      simp only [List.length_append, List.length_singleton]
      omega
    · show ((m.lks.eraseIdx (lkN m.lks c.t)).map (·.t)).Nodup
      exact h.lkd.sublist ((List.eraseIdx_sublist _ _).map _)
    · show (m.ov ++ [c.t]).Nodup
      refine List.nodup_append.2 ⟨h.ovd, by simp, fun a ha b hb e => ?_⟩
      have hb' : b = c.t := by simpa using hb
      exact hno (by rw [← hb', ← e]; exact ha)
    · show 0 ≤ max m.high c.ts
      have := h.high
      omega
/-- A command keeps it. -/
theorem fit_do {m : Sh} {n : Nat} (h : Fit m n) (at_ : Int) (c : Cm) (hk : ∀ w ∈ c.wrs, w.key.size ≤ 140737488351232) : Fit (doP m at_ c).1 (n + wt c) := by
  have hm : Fit m (n + wt c) := h.mono (Nat.le_add_right _ _)
  have hw1 : n + 1 ≤ n + wt c := by unfold wt; omega
  unfold doP
  split
  · exact fit_prep h c hk
  · split
    · unfold commitP
      split
      · exact hm
      · rename_i hr
        split
        · exact (fit_note h hr (Int.le_refl 0)).mono hw1
        · exact (fit_note h hr (by unfold comTs; omega)).mono hw1
    · split
      · unfold abortP
        split
        · exact hm
        · rename_i hr
          exact (fit_note h hr (Int.le_refl 0)).mono hw1
      · split
        · exact fit_resolve h c
        · exact hm
/-! ### locks do not meet -/
/-- One lock's writes are not another one's. -/
def Free (a b : Lk) : Prop := ∀ w ∈ a.wrs, meets w b = false
def Apart (lks : List Lk) : Prop := lks.Pairwise (fun a b => Free a b ∧ Free b a)
theorem firstR_ok {α : Type} {f : α → Rs} : ∀ {l : List α}, (firstR f l).err = 0 → ∀ x ∈ l, (f x).err = 0
  | [], h, x, hx => by simp at hx
  | y :: l, h, x, hx => by
    unfold firstR at h
    split at h
    · rename_i h0
      rcases List.mem_cons.1 hx with rfl | hx
      · exact h0
      · exact firstR_ok h x hx
    · rename_i h0; exact absurd h h0
theorem read_ok {rows : List Rw} {lks : List Lk} {r : Rd} (h : (readP rows lks r).err = 0) : (∀ l ∈ lks, hitsIn r l = false) ∧ (span rows r.sp.a r.sp.b ever).map stampOf = r.seen := by
  unfold readP at h
  split at h
  · simp [busyR] at h
  · rename_i hf
    refine ⟨fun l hl => by simpa using List.find?_eq_none.1 hf l hl, ?_⟩
    split at h
    · assumption
    · simp at h
theorem write_ok {lks : List Lk} {w : Wr} (h : (writeP lks w).err = 0) : ∀ l ∈ lks, meets w l = false := by
  unfold writeP at h
  split at h
  · simp [busyR] at h
  · rename_i hf
    exact fun l hl => by simpa using List.find?_eq_none.1 hf l hl
theorem prep_apart {m : Sh} (h : Apart m.lks) (c : Cm) : Apart (prepP m c).1.lks := by
  unfold prepP
  split
  · exact h
  · split
    · exact h
    · split
      · rename_i hr
        split
        · rename_i hw
          refine List.pairwise_append.2 ⟨h, by simp, fun a ha b hb => ?_⟩
          rw [List.mem_singleton.1 hb]
          refine ⟨fun w hwa => ?_, fun w hwb => write_ok (firstR_ok hw w hwb) a ha⟩
          have h1 : ∀ r ∈ c.rds, hitsIn r a = false := fun r hrr => (read_ok (firstR_ok hr r hrr)).1 a ha
          have h2 : ∀ x ∈ c.wrs, meets x a = false := fun x hx => write_ok (firstR_ok hw x hx) a ha
          unfold meets
          rw [Bool.or_eq_false_iff, List.any_eq_false, List.any_eq_false]
          refine ⟨fun x hx => ?_, fun p hp => ?_⟩
          · have := h2 x hx
            unfold meets at this
            rw [Bool.or_eq_false_iff, List.any_eq_false] at this
            have := this.1 w hwa
            simp only [decide_eq_true_eq] at this ⊢
            exact fun e => this e.symm
          · obtain ⟨r, hrr, rfl⟩ := List.mem_map.1 hp
            have := h1 r hrr
            unfold hitsIn at this
            rw [List.any_eq_false] at this
            exact this w hwa
        · exact h
      · exact h
theorem apart_do {m : Sh} (h : Apart m.lks) (at_ : Int) (c : Cm) : Apart (doP m at_ c).1.lks := by
  unfold doP
  split
  · exact prep_apart h c
  · split
    · unfold commitP
      split
      · exact h
      · split <;> exact h
    · split
      · unfold abortP
        split <;> exact h
      · split
        · unfold resolveP
          split
          · exact h
          · exact List.Pairwise.sublist (List.eraseIdx_sublist _ _) h
        · exact h
theorem apart_at {lks : List Lk} (h : Apart lks) {i k : Nat} (hi : i < lks.length) (hk : k < lks.length) (hne : i ≠ k) {w : Wr} (hw : w ∈ lks[i].wrs) : meets w lks[k] = false := by
  have hp := List.pairwise_iff_getElem.1 h
  rcases Nat.lt_or_ge i k with hlt | hge
  · exact (hp i k hi hk hlt).1 w hw
  · exact (hp k i hk hi (by omega)).2 w hw
end Go.Proofs.Ytphenpncdhgdhaa.Shd
