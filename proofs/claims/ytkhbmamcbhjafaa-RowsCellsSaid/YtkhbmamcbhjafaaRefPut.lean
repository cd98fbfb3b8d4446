/- lintelref20.Put, walked by hand (printed, its text is too long for a claim). -/
import Derived.Test.YtkhbmamcbhjafaaCellsA
import Derived.Test.YtkhbmamcbhjafaaCellsP
import Derived.Test.YtkhbmamcbhjafaaPRefx3
import Derived.Test.YtkhbmamcbhjafaaPRefx7
import Derived.Deep.QuietTactic
import Derived.BigQuiet
import Derived.Deep.DrawnRows
import Derived.WalkLawsBesides
import Derived.StillTailTactics
import Derived.IntWalk
namespace Go.Proofs.Ytkhbmamcbhjafaa.Keys
open Go.RowKit Go.Proofs.YtkhbmamcbhjafaaW.PrintWords Go.Proofs.YtkhbmamcbhjafaaW.PrintLast Go.Proofs.YtkhbmamcbhjafaaW.PrintMore Go.Proofs.Ytkhbmamcbhjafaa.Str Go.Proofs.Ytkhbmamcbhjafaa.PRef Go.Proofs.Ytkhbmamcbhjafaa.Stands Go.Proofs.Ytkhbmamcbhjafaa.Sl
set_option linter.unusedVariables false
set_option linter.unusedSimpArgs false
theorem el {w : World} {ad : Addr} {xs : List C} (h : Kd.C kC w (some ad) xs.length xs) (i : Nat) (hi : i < xs.length) :
    w.cell? (ad.add (i * 4)) = some (.int .i64 xs[i].f0) ∧ w.cell? ⟨(ad.add (i * 4)).block, (ad.add (i * 4)).off + 1, none⟩ = some (.int .i64 xs[i].f1.f0) ∧
      w.cell? ⟨(ad.add (i * 4)).block, (ad.add (i * 4)).off + 2, none⟩ = some (.int .i64 xs[i].f1.f1) ∧ w.cell? ⟨(ad.add (i * 4)).block, (ad.add (i * 4)).off + 3, none⟩ = some (.string xs[i].f1.f2) := by
  obtain ⟨a, e, h0, h1, h2, h3⟩ := at_T73 h (i : Int) (by omega) (by omega)
  obtain rfl : ad = a := Option.some.inj e
  rw [Int.toNat_natCast, rdc xs i hi] at h0 h1 h2 h3
  exact ⟨h0, h1, h2, h3⟩
theorem reps2 {α : Type} {R : α → List Value → Prop} {n : Nat} {x y : α} {cs ds : List Value} (h : R x cs) (hn : cs.length = n) (h' : R y ds) (hn' : ds.length = n) : Reps R n [x, y] (cs ++ ds) := by
  have h0 := ((Reps.none R n).snoc h hn).snoc h' hn'
  simpa using h0
theorem reps1_ {α : Type} {R : α → List Value → Prop} {n : Nat} {x : α} {cs : List Value} (h : R x cs) (hl : cs.length = n) : Reps R n [x] cs := by
  have := (Reps.none R n).snoc h hl
  simpa using this
theorem row_R {w0 w : World} {S0 : Nat → Prop} {F : List HP} {α : Type} {d : Kd α} {e : TypeId} {v : Value} {xs : List α} (h : St w0 S0 w (HP.row d e v xs :: F)) : ∃ ok, d.R e w 0 ok v xs :=
  let ⟨S, ⟨S1, S2, a, _⟩, _⟩ := h.holds
  ⟨S1, a⟩
attribute [local go_sem ↓] Go.wp_at_zero Go.wp_at_succ
set_option maxHeartbeats 4000000 in
set_option maxRecDepth 10000 in
theorem ref_put_fun (A : Option Addr) (c : Nat) (l : List C) (hc : l.length ≤ c) (h6 : C64 l) (hl : l.length * 40 ≤ 140737488351232) (p : ByteArray) (f : Int) (hp : put l = (p, f)) :
    FunV Try.prog 15 #[.slice A l.length c] (fun w => Kd.C kC w A l.length l) [] (.tuple #[.string p, .int .i64 f]) [] := by
  intro w S hS hR
  have HS := St.start hS
  clear hS
  have HR := Aside0.mk hR
  have HPUT := Aside0.mk hp
  clear hR hp
  have hu36 := Try.underlying36
  have hu73 := Try.underlying73
  have hu24 := Try.underlying24
  have hu75 := Try.underlying75
  go_enter Try.func15, Try.ntmps15
  go_wp2
  go_loopw [4, 5] (fun v4 v5 w' => ∃ i : Nat, i ≤ l.length ∧ v5 = .int .i64 i ∧ v4 = .string ⟨(putL (l.take i)).toArray⟩ ∧ Aside0 (okC 0 (l.take i) = true) ∧ St w S w' []) (fun _ v5 _ => l.length - (intOf v5).toNat)
  case atStart => exact ⟨0, by omega, rfl, rfl, ⟨rfl⟩, HS⟩
  case round =>
    clear HS
    obtain ⟨i, hi, rfl, rfl, HO, HS⟩ := hrel
    by_cases hlt : i < l.length
    · have hltI : (i : Int) < (l.length : Int) := by omega
      have h0i : (0 : Int) ≤ (i : Int) := by omega
      obtain ⟨ad, hA, _⟩ := at_T73 (HR.out wr HS.1) (i : Int) (by omega) (by omega)
      subst hA
      obtain ⟨x, hx⟩ : ∃ x, l[i] = x := ⟨_, rfl⟩
      have hel : ∀ W, Ext w W S → W.cell? (ad.add (i * 4)) = some (.int .i64 x.f0) ∧ W.cell? ⟨(ad.add (i * 4)).block, (ad.add (i * 4)).off + 1, none⟩ = some (.int .i64 x.f1.f0) ∧
          W.cell? ⟨(ad.add (i * 4)).block, (ad.add (i * 4)).off + 2, none⟩ = some (.int .i64 x.f1.f1) ∧ W.cell? ⟨(ad.add (i * 4)).block, (ad.add (i * 4)).off + 3, none⟩ = some (.string x.f1.f2) := fun W hW => by
        rw [← hx]; exact el (HR.out W hW) i hlt
      have HEL := Aside0.mk hel
      have h64 : In64 x.f0 ∧ In64 x.f1.f1 := by rw [← hx]; exact h6 l[i] (List.getElem_mem hlt)
      obtain ⟨s, e, hse⟩ : ∃ s e, encode (pair x) = (s, e) := ⟨_, _, rfl⟩
      have henc := ref_encode_eq (pair x) (pair_n64 h64.1 h64.2) 300 (Nat.le_refl _)
      rw [hse] at henc
      have HSE := Aside0.mk hse
      have HENC := Aside0.mk henc
      have HX := Aside0.mk hx
      clear hel hse henc hx
      go_wp2_with fail
      refine start_ (n := 18) (S := fun w' => w'.cell? (ad.add (i * 4)) = some (.int .i64 x.f0) ∧ w'.cell? ⟨(ad.add (i * 4)).block, (ad.add (i * 4)).off + 1, none⟩ = some (.int .i64 x.f1.f0) ∧ w'.cell? ⟨(ad.add (i * 4)).block, (ad.add (i * 4)).off + 2, none⟩ = some (.int .i64 x.f1.f1) ∧ w'.cell? ⟨(ad.add (i * 4)).block, (ad.add (i * 4)).off + 3, none⟩ = some (.string x.f1.f2)) (ds := []) #[false, false, false, false, false, false, false, false, false, false, false, false, false, false, false, false, false, false] (by kernel_rfl) rfl rfl ⟨(HEL.out _ HS.drew.1).1, (HEL.out _ HS.drew.1).2.1, (HEL.out _ HS.drew.1).2.2.1, (HEL.out _ HS.drew.1).2.2.2⟩ (fun hHeld => ?_)
      refine pure_ (i := 0) (N := some 15) (v := ?_) (a' := ?_) #[true, false, false, false, false, false, false, false, false, false, false, false, false, false, false, false, false, false] rfl rfl (by kernel_rfl) (fun _ _ _ h => h) (Or.inl ⟨by rfl, ?_⟩) ?_ ?_
      rotate_left
      · intro w'
        go_simp
        with_reducible rfl
      rotate_left
      · simp only [Act.put, List.setIfInBounds_toArray, List.set_cons_zero, List.set_cons_succ, i64_w, i32_w]
        rfl
      refine pure_ (i := 1) (N := some 16) (v := ?_) (a' := ?_) #[true, true, false, false, false, false, false, false, false, false, false, false, false, false, false, false, false, false] rfl rfl (by kernel_rfl) (fun _ _ _ h => h) (Or.inl ⟨by rfl, ?_⟩) ?_ ?_
      rotate_left
      · intro w'
        go_simp
        with_reducible rfl
      rotate_left
      · simp only [Act.put, List.setIfInBounds_toArray, List.set_cons_zero, List.set_cons_succ, i64_w, i32_w]
        rfl
      refine pure_ (i := 2) (N := some 17) (v := ?_) (a' := ?_) #[true, true, true, false, false, false, false, false, false, false, false, false, false, false, false, false, false, false] rfl rfl (by kernel_rfl) (fun _ _ _ h => h) (Or.inl ⟨by rfl, ?_⟩) ?_ ?_
      rotate_left
      · intro w'
        go_simp
        with_reducible rfl
      rotate_left
      · simp only [Act.put, List.setIfInBounds_toArray, List.set_cons_zero, List.set_cons_succ, i64_w, i32_w]
        rfl
      refine pure_ (i := 3) (N := some 18) (v := ?_) (a' := ?_) #[true, true, true, true, false, false, false, false, false, false, false, false, false, false, false, false, false, false] rfl rfl (by kernel_rfl) (fun _ _ _ h => h) (Or.inl ⟨by rfl, ?_⟩) ?_ ?_
      rotate_left
      · intro w'
        go_simp
        with_reducible rfl
      rotate_left
      · simp only [Act.put, List.setIfInBounds_toArray, List.set_cons_zero, List.set_cons_succ, i64_w, i32_w]
        rfl
      refine pure_ (i := 6) (N := some 21) (v := ?_) (a' := ?_) #[true, true, true, true, false, false, true, false, false, false, false, false, false, false, false, false, false, false] rfl rfl (by kernel_rfl) (fun _ _ _ h => h) (Or.inl ⟨by rfl, ?_⟩) ?_ ?_
      rotate_left
      · intro w'
        go_simp
        with_reducible rfl
      rotate_left
      · simp only [Act.put, List.setIfInBounds_toArray, List.set_cons_zero, List.set_cons_succ, i64_w, i32_w]
        rfl
      refine pure_ (i := 7) (N := some 22) (v := ?_) (a' := ?_) #[true, true, true, true, false, false, true, true, false, false, false, false, false, false, false, false, false, false] rfl rfl (by kernel_rfl) (fun _ _ _ h => h) (Or.inl ⟨by rfl, ?_⟩) ?_ ?_
      rotate_left
      · intro w'
        go_simp
        with_reducible rfl
      rotate_left
      · simp only [Act.put, List.setIfInBounds_toArray, List.set_cons_zero, List.set_cons_succ, i64_w, i32_w]
        rfl
      refine pure_ (i := 8) (N := some 23) (v := ?_) (a' := ?_) #[true, true, true, true, false, false, true, true, true, false, false, false, false, false, false, false, false, false] rfl rfl (by kernel_rfl) (fun _ _ _ h => h) (Or.inl ⟨by rfl, ?_⟩) ?_ ?_
      rotate_left
      · intro w'
        go_simp
        with_reducible rfl
      rotate_left
      · simp only [Act.put, List.setIfInBounds_toArray, List.set_cons_zero, List.set_cons_succ, i64_w, i32_w]
        rfl
      refine pure_ (i := 9) (N := some 24) (v := ?_) (a' := ?_) #[true, true, true, true, false, false, true, true, true, true, false, false, false, false, false, false, false, false] rfl rfl (by kernel_rfl) (fun _ _ _ h => h) (Or.inl ⟨by rfl, ?_⟩) ?_ ?_
      rotate_left
      · intro w'
        go_simp
        with_reducible rfl
      rotate_left
      · simp only [Act.put, List.setIfInBounds_toArray, List.set_cons_zero, List.set_cons_succ, i64_w, i32_w]
        rfl
      refine take_ (i := 4) (N := some 19) (v := ?_) (a' := ?_) #[true, true, true, true, true, false, true, true, true, true, false, false, false, false, false, false, false, false] rfl rfl (by kernel_rfl) (fun _ _ _ h => h) (Or.inl ⟨by rfl, ?_⟩) hHeld ?_ ?_
      rotate_left
      · rintro w' ⟨s0, s1, s2, s3⟩
        go_simp
        with_reducible rfl
      rotate_left
      · simp only [Act.put, List.setIfInBounds_toArray, List.set_cons_zero, List.set_cons_succ, i64_w, i32_w]
        rfl
      refine take_ (i := 10) (N := some 25) (v := ?_) (a' := ?_) #[true, true, true, true, true, false, true, true, true, true, true, false, false, false, false, false, false, false] rfl rfl (by kernel_rfl) (fun _ _ _ h => h) (Or.inl ⟨by rfl, ?_⟩) hHeld ?_ ?_
      rotate_left
      · rintro w' ⟨s0, s1, s2, s3⟩
        go_simp
        with_reducible rfl
      rotate_left
      · simp only [Act.put, List.setIfInBounds_toArray, List.set_cons_zero, List.set_cons_succ, i64_w, i32_w]
        rfl
      refine one_ (i := 5) (N := some 20) #[true, true, true, true, true, true, true, true, true, true, true, false, false, false, false, false, false, false] rfl rfl (by kernel_rfl) (by decide) (fun K hK => ?_)
      refine goes_ Try.func24 (by kernel_rfl) rfl #[.int .i64 x.f0] (by rfl) rfl rfl (by simp only [List.map_toArray, List.map_cons, List.map_nil]; rfl) ?_
      refine (lintelref20_Num.calls x.f0 1 x.f0 ⟨#[]⟩ _ rfl).mono ?_
      rintro e_ w15 ⟨rfl, hb⟩
      refine ⟨_, rfl, ?_⟩
      have HS_ := HS.drew.later hb
      clear HS
      have HS := HS_
      clear HS_ hb
      refine hK.out _ _ ⟨(HEL.out _ HS.1).1, (HEL.out _ HS.1).2.1, (HEL.out _ HS.1).2.2.1, (HEL.out _ HS.1).2.2.2⟩ (fun hHeld => ?_)
      clear hK K
      refine norm_ (a' := ?_) ?_ ?_
      rotate_left
      · show Act.put _ (some 20) _ = _
        simp only [Act.put, List.setIfInBounds_toArray, List.set_cons_zero, List.set_cons_succ, i64_w, i32_w]
        rfl
      refine one_ (i := 11) (N := some 26) #[true, true, true, true, true, true, true, true, true, true, true, true, false, false, false, false, false, false] rfl rfl (by kernel_rfl) (by decide) (fun K hK => ?_)
      have HS_ := HS.lit (d := kV) (e := 36) (xs := pair x) (inner := [.int .i64 1, .int .i64 x.f0, .string ⟨#[]⟩, .int .i64 x.f1.f0, .int .i64 x.f1.f1, .string x.f1.f2]) (reps2 (k36_mkM _ _ _ (numV x.f0)) rfl (k36_mkM _ _ _ x.f1) rfl) (by simp [pair])
      refine value_ (w1 := w15.alloc (Obj.cells #[.int .i64 1, .int .i64 x.f0, .string ⟨#[]⟩, .int .i64 x.f1.f0, .int .i64 x.f1.f1, .string x.f1.f2] 36)) (v := .slice (some ⟨w15.heap.size, 0, none⟩) 2 2) (by rfl) rfl ?hrun ?_
      case hrun => first | (go_simp; done) | (go_simp; rfl)
      clear HS
      have HS := HS_
      clear HS_
      change St w S (w15.alloc _) (HP.row kV 36 (.slice (some ⟨w15.heap.size, 0, none⟩) (pair x).length 2) (pair x) :: _) at HS
      generalize w15.alloc (Obj.cells #[.int .i64 1, .int .i64 x.f0, .string ⟨#[]⟩, .int .i64 x.f1.f0, .int .i64 x.f1.f1, .string x.f1.f2] 36) = w16 at HS ⊢
      generalize w15.heap.size = gb at HS ⊢
      refine hK.out _ _ ⟨(HEL.out _ HS.1).1, (HEL.out _ HS.1).2.1, (HEL.out _ HS.1).2.2.1, (HEL.out _ HS.1).2.2.2⟩ (fun hHeld => ?_)
      clear hK K
      refine norm_ (a' := ?_) ?_ ?_
      rotate_left
      · show Act.put _ (some 26) _ = _
        simp only [Act.put, List.setIfInBounds_toArray, List.set_cons_zero, List.set_cons_succ, i64_w, i32_w]
        rfl
      refine one_ (i := 12) (N := some 27) #[true, true, true, true, true, true, true, true, true, true, true, true, true, false, false, false, false, false] rfl rfl (by kernel_rfl) (by decide) (fun K hK => ?_)
      refine goes_ Try.func31 (by kernel_rfl) rfl #[.slice (some ⟨gb, 0, none⟩) 2 2] (by rfl) rfl rfl (by simp only [List.map_toArray, List.map_cons, List.map_nil]; rfl) ?_
      refine (lintelref02_Encode.calls 300 _ 2 (pair x) s e _ (St.row_reads HS).2.2 (by simp [pair]) HENC.out).mono ?_
      rintro e_ w17 ⟨rfl, hb⟩
      refine ⟨_, rfl, ?_⟩
      have HS_ := (HS.later hb).out 0
      clear HS
      have HS := HS_
      clear HS_ hb
      refine hK.out _ _ ⟨(HEL.out _ HS.1).1, (HEL.out _ HS.1).2.1, (HEL.out _ HS.1).2.2.1, (HEL.out _ HS.1).2.2.2⟩ (fun hHeld => ?_)
      clear hK K
      refine norm_ (a' := ?_) ?_ ?_
      rotate_left
      · show Act.put _ (some 27) _ = _
        simp only [Act.put, List.setIfInBounds_toArray, List.set_cons_zero, List.set_cons_succ, i64_w, i32_w]
        rfl
      refine pure_ (i := 13) (N := some 14) (v := ?_) (a' := ?_) #[true, true, true, true, true, true, true, true, true, true, true, true, true, true, false, false, false, false] rfl rfl (by kernel_rfl) (fun _ _ _ h => h) (Or.inl ⟨by rfl, ?_⟩) ?_ ?_
      rotate_left
      · intro w'
        go_simp
        with_reducible rfl
      rotate_left
      · simp only [Act.put, List.setIfInBounds_toArray, List.set_cons_zero, List.set_cons_succ, i64_w, i32_w]
        rfl
      refine pure_ (i := 14) (N := some 28) (v := ?_) (a' := ?_) #[true, true, true, true, true, true, true, true, true, true, true, true, true, true, true, false, false, false] rfl rfl (by kernel_rfl) (fun _ _ _ h => h) (Or.inl ⟨by rfl, ?_⟩) ?_ ?_
      rotate_left
      · intro w'
        go_simp
        with_reducible rfl
      rotate_left
      · simp only [Act.put, List.setIfInBounds_toArray, List.set_cons_zero, List.set_cons_succ, i64_w, i32_w]
        rfl
      refine pure_ (i := 15) (N := some 29) (v := ?_) (a' := ?_) #[true, true, true, true, true, true, true, true, true, true, true, true, true, true, true, true, false, false] rfl rfl (by kernel_rfl) (fun _ _ _ h => h) (Or.inl ⟨by rfl, ?_⟩) ?_ ?_
      rotate_left
      · intro w'
        go_simp
        with_reducible rfl
      rotate_left
      · simp only [Act.put, List.setIfInBounds_toArray, List.set_cons_zero, List.set_cons_succ, i64_w, i32_w]
        rfl
      refine pure_ (i := 16) (N := some 6) (v := ?_) (a' := ?_) #[true, true, true, true, true, true, true, true, true, true, true, true, true, true, true, true, true, false] rfl rfl (by kernel_rfl) (fun _ _ _ h => h) (Or.inl ⟨by rfl, ?_⟩) ?_ ?_
      rotate_left
      · intro w'
        go_simp
        with_reducible rfl
      rotate_left
      · simp only [Act.put, List.setIfInBounds_toArray, List.set_cons_zero, List.set_cons_succ, i64_w, i32_w]
        rfl
      refine pure_ (i := 17) (N := some 7) (v := ?_) (a' := ?_) #[true, true, true, true, true, true, true, true, true, true, true, true, true, true, true, true, true, true] rfl rfl (by kernel_rfl) (fun _ _ _ h => h) (Or.inl ⟨by rfl, ?_⟩) ?_ ?_
      rotate_left
      · intro w'
        go_simp
        with_reducible rfl
      rotate_left
      · simp only [Act.put, List.setIfInBounds_toArray, List.set_cons_zero, List.set_cons_succ, i64_w, i32_w]
        rfl
      refine done_ (by kernel_rfl) ?_
      clear hHeld
      obtain ⟨q0, _, _, _⟩ := HEL.out _ HS.1
      have hse := HSE.out
      rw [encode_pair] at hse
      by_cases hr : rightV x.f1 = true
      · rw [if_pos hr] at hse
        obtain ⟨rfl, rfl⟩ : (⟨(encL (pair x)).toArray⟩ : ByteArray) = s ∧ (0 : Int) = e := by simpa using hse
        clear hse
        have hpl := pair_length hr
        have hple := putL_le (l.take i) 0 HO.out
        have hlt2 : (l.take i).length ≤ i := List.length_take_le _ _
        by_cases h0 : 0 < i
        · have hpos := lastC_pos (l.take i) 0 (by omega) HO.out (by rw [List.length_take]; omega)
          have hlc := lastC_take l i hlt h0
          obtain ⟨y, hy⟩ : ∃ y, l[i - 1]'(by omega) = y := ⟨_, rfl⟩
          rw [hy] at hlc
          obtain ⟨p0, _, _, _⟩ := el (HR.out _ HS.1) (i - 1) (by omega)
          rw [hy] at p0
          rw [hlc] at hpos
          have hw1 : IntKind.i64.wrap ((i : Int) - 1) = ((i - 1 : Nat) : Int) := by rw [IntWalk.i64_in _ (by omega)]; omega
          have hi0 : decide ((i : Int) > 0) = true := decide_eq_true (by omega)
          have hi1 : ((i - 1 : Nat) : Int) < (l.length : Int) := by omega
          have hi2 : (0 : Int) ≤ ((i - 1 : Nat) : Int) := by omega
          have HLC := Aside0.mk hlc
          clear hlc hy
          by_cases hlast : y.f0 < x.f0
          · have hb1 : decide (x.f0 < 1) = false := decide_eq_false (by omega)
            have hb2 : decide (x.f0 ≤ y.f0) = false := decide_eq_false (by omega)
            have hok : okC 0 (l.take (i + 1)) = true := by rw [okC_take l i hlt HO.out, HLC.out, HX.out]; simp [hlast, hr]
            have HOK := Aside0.mk hok
            clear hok
            go_wp2_with fail
            go_quiet (fail)
            generalize hq : World.drewN w17 _ = wq
            have H5 : St w S wq [] := hq ▸ HS.drewN _
            clear hq
            obtain ⟨n, hn⟩ : ∃ n, (encL (pair x)).length = n := ⟨_, rfl⟩
            have hn1 : n ≤ 140 := by omega
            have hn2 : IntKind.u8.wrap (n : Int) = (n : Int) := by rw [IntKind.wrap_u8]; omega
            have hs1 : strOfNums [(n : Int)] = ⟨[UInt8.ofNat n].toArray⟩ := by have h := str_one n; rwa [Int.emod_eq_of_lt (by omega) (by omega)] at h
            have hsz : (⟨(encL (pair x)).toArray⟩ : ByteArray).size = n := by rw [mk_size]; exact hn
            obtain ⟨sa, hsa⟩ : ∃ sa : ByteArray, ⟨(putL (l.take i)).toArray⟩ = sa := ⟨_, rfl⟩
            obtain ⟨sb, hsb⟩ : ∃ sb : ByteArray, ⟨[UInt8.ofNat n].toArray⟩ = sb := ⟨_, rfl⟩
            obtain ⟨sc, hsc⟩ : ∃ sc : ByteArray, ⟨(encL (pair x)).toArray⟩ = sc := ⟨_, rfl⟩
            have hza : sa.size ≤ 141 * l.length := by rw [← hsa, mk_size]; omega
            have hzb : sb.size = 1 := by rw [← hsb]; rfl
            have hstep : (sa ++ sb) ++ sc = ⟨(putL (l.take (i + 1))).toArray⟩ := by
              have h := put_step l i hlt
              rw [HX.out, hn, hsa, hsb, hsc, ← ByteArray.append_assoc] at h
              exact h
            rw [hsb] at hs1
            rw [hsc] at hsz ⊢
            rw [hsa]
            have hz1 : sa.size + sb.size ≤ 9223372036854775807 := by omega
            have hz2 : (sa ++ sb).size + sc.size ≤ 9223372036854775807 := by rw [ByteArray.size_append]; omega
            have HST := Aside0.mk hstep
            have HZ := Aside0.mk hza
            clear hstep hsa hsb hsc hn hza hpl hple hlt2 hzb
            go_wp2_with ((with_reducible refine gate_dst (N := 62) rfl ?_); refine ev_lit (Kd.int .u8) 5 ?hg (N := 62) ?hd (xs := [(n : Int)]) (inner := [.int .u8 (n : Int)]) H5 ?hr ?hp (by simp) ?_; (case hd => rfl); (case hg => rfl); (case hr => first | (go_simp; done) | (go_simp; rfl)); (case hp => exact reps1_ rfl rfl); intro v62 w62 H6; obtain ⟨ok6, hR6⟩ := row_R H6; have hcv := own_string (P := Try.prog) (dst := 9) Try.underlying76 Try.underlying5 Try.underlying9 (Kd.own_of_R hR6); rw [hs1] at hcv; clear hR6)
            go_wp2
            go_roundw
            case rel => exact ⟨i + 1, by omega, by go_num, by rw [HST.out], HOK, H6.out 0⟩
            case measure => simp [intOf]; omega
          · by_cases h1 : x.f0 < 1
            · have hb1 : decide (x.f0 < 1) = true := decide_eq_true h1
              have hput : put l = (⟨#[]⟩, 100) := put_bad l i hlt HO.out (fun h => hlast (by have := h.1; rw [HLC.out, HX.out] at this; exact this))
              have hpe := HPUT.out
              rw [hput] at hpe
              obtain ⟨rfl, rfl⟩ : (⟨#[]⟩ : ByteArray) = p ∧ (100 : Int) = f := by simpa using hpe
              clear hpe hput
              go_wp2_with fail
              go_quiet (fail)
              go_wp2
              go_ret2
              exact ⟨rfl, HS.drewN _⟩
            · have hb1 : decide (x.f0 < 1) = false := decide_eq_false h1
              have hb2 : decide (x.f0 ≤ y.f0) = true := decide_eq_true (by omega)
              have hput : put l = (⟨#[]⟩, 100) := put_bad l i hlt HO.out (fun h => hlast (by have := h.1; rw [HLC.out, HX.out] at this; exact this))
              have hpe := HPUT.out
              rw [hput] at hpe
              obtain ⟨rfl, rfl⟩ : (⟨#[]⟩ : ByteArray) = p ∧ (100 : Int) = f := by simpa using hpe
              clear hpe hput
              go_wp2_with fail
              go_quiet (fail)
              go_wp2
              go_ret2
              exact ⟨rfl, HS.drewN _⟩
        · have hi0 : decide ((i : Int) > 0) = false := decide_eq_false (by omega)
          have hl0 : lastC 0 (l.take i) = 0 := by
            obtain rfl : i = 0 := by omega
            rfl
          by_cases h1 : x.f0 < 1
          · have hb1 : decide (x.f0 < 1) = true := decide_eq_true h1
            have hput : put l = (⟨#[]⟩, 100) := put_bad l i hlt HO.out (fun h => by have := h.1; rw [hl0, HX.out] at this; omega)
            have hpe := HPUT.out
            rw [hput] at hpe
            obtain ⟨rfl, rfl⟩ : (⟨#[]⟩ : ByteArray) = p ∧ (100 : Int) = f := by simpa using hpe
            clear hpe hput
            go_wp2_with fail
            go_quiet (fail)
            go_wp2
            go_ret2
            exact ⟨rfl, HS.drewN _⟩
          · have hb1 : decide (x.f0 < 1) = false := decide_eq_false h1
            have hok : okC 0 (l.take (i + 1)) = true := by
              rw [okC_take l i hlt HO.out, HX.out, hl0, decide_eq_true (show (0 : Int) < x.f0 by omega), hr]
              rfl
            have HOK := Aside0.mk hok
            clear hok hl0
            go_wp2_with fail
            go_quiet (fail)
            generalize hq : World.drewN w17 _ = wq
            have H5 : St w S wq [] := hq ▸ HS.drewN _
            clear hq
            obtain ⟨n, hn⟩ : ∃ n, (encL (pair x)).length = n := ⟨_, rfl⟩
            have hn1 : n ≤ 140 := by omega
            have hn2 : IntKind.u8.wrap (n : Int) = (n : Int) := by rw [IntKind.wrap_u8]; omega
            have hs1 : strOfNums [(n : Int)] = ⟨[UInt8.ofNat n].toArray⟩ := by have h := str_one n; rwa [Int.emod_eq_of_lt (by omega) (by omega)] at h
            have hsz : (⟨(encL (pair x)).toArray⟩ : ByteArray).size = n := by rw [mk_size]; exact hn
            obtain ⟨sa, hsa⟩ : ∃ sa : ByteArray, ⟨(putL (l.take i)).toArray⟩ = sa := ⟨_, rfl⟩
            obtain ⟨sb, hsb⟩ : ∃ sb : ByteArray, ⟨[UInt8.ofNat n].toArray⟩ = sb := ⟨_, rfl⟩
            obtain ⟨sc, hsc⟩ : ∃ sc : ByteArray, ⟨(encL (pair x)).toArray⟩ = sc := ⟨_, rfl⟩
            have hza : sa.size ≤ 141 * l.length := by rw [← hsa, mk_size]; omega
            have hzb : sb.size = 1 := by rw [← hsb]; rfl
            have hstep : (sa ++ sb) ++ sc = ⟨(putL (l.take (i + 1))).toArray⟩ := by
              have h := put_step l i hlt
              rw [HX.out, hn, hsa, hsb, hsc, ← ByteArray.append_assoc] at h
              exact h
            rw [hsb] at hs1
            rw [hsc] at hsz ⊢
            rw [hsa]
            have hz1 : sa.size + sb.size ≤ 9223372036854775807 := by omega
            have hz2 : (sa ++ sb).size + sc.size ≤ 9223372036854775807 := by rw [ByteArray.size_append]; omega
            have HST := Aside0.mk hstep
            have HZ := Aside0.mk hza
            clear hstep hsa hsb hsc hn hza hpl hple hlt2 hzb
            go_wp2_with ((with_reducible refine gate_dst (N := 62) rfl ?_); refine ev_lit (Kd.int .u8) 5 ?hg (N := 62) ?hd (xs := [(n : Int)]) (inner := [.int .u8 (n : Int)]) H5 ?hr ?hp (by simp) ?_; (case hd => rfl); (case hg => rfl); (case hr => first | (go_simp; done) | (go_simp; rfl)); (case hp => exact reps1_ rfl rfl); intro v62 w62 H6; obtain ⟨ok6, hR6⟩ := row_R H6; have hcv := own_string (P := Try.prog) (dst := 9) Try.underlying76 Try.underlying5 Try.underlying9 (Kd.own_of_R hR6); rw [hs1] at hcv; clear hR6)
            go_wp2
            go_roundw
            case rel => exact ⟨i + 1, by omega, by go_num, by rw [HST.out], HOK, H6.out 0⟩
            case measure => simp [intOf]; omega
      · rw [if_neg hr] at hse
        obtain ⟨rfl, rfl⟩ : (⟨#[]⟩ : ByteArray) = s ∧ (10 : Int) = e := by simpa using hse
        clear hse
        have hput : put l = (⟨#[]⟩, 100) := put_bad l i hlt HO.out (fun h => hr (by have := h.2; rw [HX.out] at this; exact this))
        have hpe := HPUT.out
        rw [hput] at hpe
        obtain ⟨rfl, rfl⟩ : (⟨#[]⟩ : ByteArray) = p ∧ (100 : Int) = f := by simpa using hpe
        clear hpe hput
        go_wp2_with fail
        go_quiet (fail)
        go_wp2
        go_ret2
        exact ⟨rfl, HS.drewN _⟩
    · have hltI : ¬ (i : Int) < (l.length : Int) := by omega
      obtain rfl : i = l.length := by omega
      have ho := HO.out
      rw [List.take_length] at ho
      have hput : put l = (⟨(putL l).toArray⟩, 0) := by unfold put; rw [if_pos ho]
      have hpe := HPUT.out
      rw [hput] at hpe
      obtain ⟨rfl, rfl⟩ : (⟨(putL l).toArray⟩ : ByteArray) = p ∧ (0 : Int) = f := by simpa using hpe
      clear hpe hput ho
      go_wp2
      go_ret2
      exact ⟨rfl, HS⟩
end Go.Proofs.Ytkhbmamcbhjafaa.Keys
