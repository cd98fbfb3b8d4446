/- Layer 1: Read whole, Compare's law, awake: walked. -/
import Derived.Test.YtnejbilnhebphaaDoorValC
import Derived.Test.YtnejbilnhebphaaDoorStands
namespace Go.Proofs.YtnejbilnhebphaaDoor.Val
open Go.Lib (itoa parseIntB trimSuffix replaceAll hasPrefix)
open Go.RowKit Go.Proofs.YtnejbilnhebphaaDoorW.PrintWords Go.Proofs.YtnejbilnhebphaaDoorW.PrintLast Go.Proofs.YtnejbilnhebphaaDoorW.PrintMore Go.Proofs.YtnejbilnhebphaaDoor.Str Go.Proofs.YtnejbilnhebphaaDoor.PRef Go.Proofs.YtnejbilnhebphaaDoor.Sl
set_option linter.unusedVariables false
set_option linter.unusedSimpArgs false
def cmpV (ka na : Int) (sa : ByteArray) (kb nb : Int) (sb : ByteArray) : Int := orL [cmpI ka kb, cmpI na nb, cmpS sa sb]
theorem or3 (a b c : Int) : orL [a, b, c] = if a ≠ 0 then a else if b ≠ 0 then b else c := by
  unfold orL
  by_cases h1 : a = 0 <;> by_cases h2 : b = 0 <;> by_cases h3 : c = 0 <;> simp [h1, h2, h3]
theorem cmpI_cases (a b : Int) : (a < b ∧ cmpI a b = -1) ∨ (a = b ∧ cmpI a b = 0) ∨ (b < a ∧ cmpI a b = 1) := by
  unfold cmpI
  rcases Int.lt_trichotomy a b with h | h | h
  · exact .inl ⟨h, if_pos h⟩
  · exact .inr (.inl ⟨h, by rw [if_neg (by omega), if_neg (by omega)]⟩)
  · exact .inr (.inr ⟨h, by rw [if_neg (by omega), if_pos (by omega)]⟩)
theorem compare_f (ka na : Int) (sa : ByteArray) (kb nb : Int) (sb : ByteArray) (ha : sa.size ≤ 140737488355328) : ∃ k, lintelref01_Compare.f k ka na sa kb nb sb = some (cmpV ka na sa kb nb sb) := by
  refine ⟨2 * sa.size + 3, ?_⟩
  have hs := Stands.stands sa sb ha (2 * sa.size + 2) (Nat.le_refl _)
  unfold lintelref01_Compare.f cmpV
  rw [or3]
  simp only [lintelref01_Compare.j0, hs, Option.bind_some]
  rcases cmpI_cases ka kb with ⟨h1, e1⟩ | ⟨h1, e1⟩ | ⟨h1, e1⟩
  · rw [if_pos h1, e1]; simp
  · rw [if_neg (by omega), if_pos h1, e1]
    rcases cmpI_cases na nb with ⟨h2, e2⟩ | ⟨h2, e2⟩ | ⟨h2, e2⟩
    · rw [decide_eq_true h2, e2]; simp
    · rw [decide_eq_false (by omega), e2]
      have h3 : ¬ ka > kb := by omega
      have h4 : ¬ na > nb := by omega
      simp [h3, h4]
    · rw [decide_eq_false (by omega), e2]
      have h3 : ¬ ka > kb := by omega
      have h4 : na > nb := by omega
      simp [h3, h4]
  · rw [if_neg (by omega), if_neg (by omega), e1]
    have h3 : ka > kb := by omega
    simp [h3]
theorem printV_text (l : List UInt8) : printV 2 0 l = if l.length ≤ 64 then (quote l, 0) else ([], 10) := by
  unfold printV okV
  by_cases h : l.length ≤ 64 <;> simp [h]
theorem printV_num (n : Int) : printV 1 n [] = (itoa n, 0) := by
  unfold printV okV
  simp
theorem empty_toList : (⟨#[]⟩ : ByteArray).toList = [] := by rw [toList_eq]
theorem read_fun (s : ByteArray) (hs : s.size ≤ 1048576) :
    FunV Tryd.prog 16 #[.string s] Vars [] (.tuple #[V23 (readV s.toList).1 (readV s.toList).2.1 (ba (readV s.toList).2.2.1), .int .i64 (readV s.toList).2.2.2]) [] := by
  by_cases hn : s.toList = [110, 117, 108, 108]
  · have e : s = (⟨#[110, 117, 108, 108]⟩ : ByteArray) := Str.ext _ _ (by rw [hn, toList_eq])
    have hr : readV s.toList = (0, 0, [], 0) := by rw [hn]; rfl
    rw [hr]
    subst e
    exact read_null
  · have hnb : (s.toList == [110, 117, 108, 108]) = false := by simpa using hn
    cases hp : hasPrefix s.toList [39] with
    | true =>
      have hr : readV s.toList = if (replaceAll (trimSuffix s.toList.tail [39]) [39, 39] [39]).length ≤ 64 ∧ quote (replaceAll (trimSuffix s.toList.tail [39]) [39, 39] [39]) = s.toList then (2, 0, replaceAll (trimSuffix s.toList.tail [39]) [39, 39] [39], 0) else (0, 0, [], 10) := by
        unfold readV
        rw [if_neg hn, hp, if_pos rfl]
      rw [hr]
      generalize hv : replaceAll (trimSuffix s.toList.tail [39]) [39, 39] [39] = v
      have ht : replaceAll (trimSuffix s.toList.tail [39]) [39, 39] [39] = (ba v).toList := by rw [ba_toList, hv]
      have hpr := printV_text (ba v).toList
      rw [ba_toList] at hpr
      by_cases h64 : v.length ≤ 64
      · rw [if_pos h64] at hpr
        by_cases hq : quote v = s.toList
        · rw [if_pos ⟨h64, hq⟩]
          exact read_quote_ok s hs hnb hp (ba v) ht (by rw [ba_toList, hpr, hq])
        · rw [if_neg (fun h => hq h.2)]
          exact read_quote_ne s hs hnb hp (ba v) ht (ba (quote v)) (by rw [ba_toList, hpr, ba_toList]) (by rw [ba_toList]; simpa using hq)
      · rw [if_neg h64] at hpr
        rw [if_neg (fun h => h64 h.1)]
        exact read_quote_no s hs hnb hp (ba v) ht (by rw [ba_toList, hpr])
    | false =>
      have hr : ∀ e, parseIntB 64 s.toList = e → readV s.toList = match e with
          | .ok n => if itoa n = s.toList then (1, n, [], 0) else (0, 0, [], 10)
          | _ => (0, 0, [], 10) := by
        intro e he
        unfold readV
        rw [if_neg hn, hp, if_neg (by decide), he]
        cases e <;> rfl
      cases ht : parseIntB 64 s.toList with
      | ok n =>
        rw [hr _ ht]
        have hb := Lib.parseIntB_bounds ht
        have e63 : ((2 ^ (64 - 1) : Nat) : Int) = 9223372036854775808 := by decide
        have hpr : printV 1 n (⟨#[]⟩ : ByteArray).toList = (itoa n, 0) := by rw [empty_toList]; exact printV_num n
        by_cases hq : itoa n = s.toList
        · simp only [if_pos hq]
          exact read_num_ok s hs hnb hp n (by omega) (by omega) ht (by rw [hpr, hq])
        · simp only [if_neg hq]
          exact read_num_ne s hs hnb hp n (by omega) (by omega) ht (ba (itoa n)) (by rw [hpr, ba_toList]) (by rw [ba_toList]; simpa using hq)
      | _ => rw [hr _ ht]; exact read_bad s hs hnb hp (fun v h => by rw [ht] at h; cases h)
theorem print_its : FunV Tryd.prog 14 #[.agg #[.int .i64 2, .int .i64 0, .string ⟨#[105, 116, 39, 115]⟩]] Vars [] (.tuple #[.string ⟨#[39, 105, 116, 39, 39, 115, 39]⟩, .int .i64 0]) [] := by
  have h := print_fun 2 0 ⟨#[105, 116, 39, 115]⟩ (by decide) (by decide)
  have e : (⟨#[105, 116, 39, 115]⟩ : ByteArray).toList = [105, 116, 39, 115] := by rw [toList_eq]
  have e2 : printV 2 0 [105, 116, 39, 115] = ([39, 105, 116, 39, 39, 115, 39], 0) := by decide
  rw [e, e2] at h
  exact h
theorem read_m5 : FunV Tryd.prog 16 #[.string ⟨#[45, 53]⟩] Vars [] (.tuple #[.agg #[.int .i64 1, .int .i64 (-5), .string ⟨#[]⟩], .int .i64 0]) [] := by
  have h := read_fun ⟨#[45, 53]⟩ (by decide)
  have e : (⟨#[45, 53]⟩ : ByteArray).toList = itoa (-5) := by rw [toList_eq]; simp [itoa, Lib.decDigits]
  rw [e, readV_itoa (-5) (by decide) (by decide)] at h
  exact h
theorem read_05 : FunV Tryd.prog 16 #[.string ⟨#[48, 53]⟩] Vars [] (.tuple #[.agg #[.int .i64 0, .int .i64 0, .string ⟨#[]⟩], .int .i64 10]) [] := by
  have h := read_fun ⟨#[48, 53]⟩ (by decide)
  have e : (⟨#[48, 53]⟩ : ByteArray).toList = [48, 53] := by rw [toList_eq]
  have e2 : readV [48, 53] = (0, 0, [], 10) := by
    refine readV_none _ (by decide) (fun n h0 h1 hn => ?_) (fun t _ ht => by simp [quote] at ht)
    unfold itoa at hn
    split at hn
    · simp at hn
    · by_cases hp : 0 < n.toNat
      · exact dec_head (n.toNat + 1) n.toNat (by omega) hp 48 (by rw [← hn]; rfl) rfl
      · have hz : n.toNat = 0 := by omega
        rw [hz] at hn
        simp [Lib.decDigits] at hn
  rw [e, e2] at h
  exact h
set_option maxHeartbeats 8000000 in
set_option maxRecDepth 20000 in
theorem awake_fun : FunV Tryd.prog 9 #[] Vars [] (.bool true) [] := by
  intro w S hS hR
  have HS := St.start hS
  have HR := Aside0.mk hR
  clear hS hR
  have huV := Tryd.underlying23
  have hcm := valcmp_fun 0 0 ⟨#[]⟩ 1 0 ⟨#[]⟩
  have hcv : orL [cmpI 0 1, cmpI 0 0, cmpS (⟨#[]⟩ : ByteArray) ⟨#[]⟩] = -1 := by rw [or3]; rfl
  rw [hcv] at hcm
  have HCM := Aside0.mk hcm
  clear hcm hcv
  go_enter Tryd.func9, Tryd.ntmps9
  go_wp2_with fail
  refine (print_its.call (F := []) HS (fun w' _ e _ => HR.out w' e)).mono ?_
  rintro e_ w1 ⟨rfl, HS_⟩
  clear HS
  have HS : St w S w1 [] := HS_
  clear HS_
  go_wp2_with fail
  refine (read_m5.call (F := []) HS (fun w' _ e _ => HR.out w' e)).mono ?_
  rintro e_ w2 ⟨rfl, HS_⟩
  clear HS
  have HS : St w S w2 [] := HS_
  clear HS_
  go_wp2_with (first
    | ((with_reducible refine gate_dst (N := 3) rfl ?_); refine ev_box ?hg (N := 3) ?hd (cs := [.int .i64 0, .int .i64 0, .string ⟨#[]⟩]) (t := 23) HS ?hr ?_; (case hd => rfl); (case hg => rfl); (case hr => first | (go_simp; done) | (go_simp; rfl)); intro g3 w3 HS_ hg_; clear HS; have HS := HS_; clear HS_)
    | ((with_reducible refine gate_ (.store 23 (.tmp 3) (.tmp 14)) rfl ?_); refine ev_store rfl rfl 23 (.tmp 3) (.tmp 14) rfl HS (g := g3) (j := 0) rfl rfl (seg := [.int .i64 1, .int .i64 (-5), .string ⟨#[]⟩]) rfl ?ht rfl ?hf ?_; (case ht => kernel_rfl); (case hf => first | (simp; done) | (simp [splice]; done)); intro w4 HS_; clear HS; have HS : St w S w4 [HP.obj g3 23 [.int .i64 1, .int .i64 (-5), .string ⟨#[]⟩]] := HS_; clear HS_))
  refine (read_05.call (F := [HP.obj g3 23 [.int .i64 1, .int .i64 (-5), .string ⟨#[]⟩]]) HS (fun w' _ e _ => HR.out w' e)).mono ?_
  rintro e_ w5 ⟨rfl, HS_⟩
  clear HS
  have HS : St w S w5 [HP.obj g3 23 [.int .i64 1, .int .i64 (-5), .string ⟨#[]⟩]] := HS_
  clear HS_
  have p0 := HS.cell 0
  have p1 := HS.cell 1
  have p2 := HS.cell 2
  go_wp2_with (first
    | ((with_reducible refine gate_dst (N := 5) rfl ?_); refine ev_box ?hg (N := 5) ?hd (cs := [.int .i64 0, .int .i64 0, .string ⟨#[]⟩]) (t := 23) HS ?hr ?_; (case hd => rfl); (case hg => rfl); (case hr => first | (go_simp; done) | (go_simp; rfl)); intro g5 w6 HS_ hg_; clear HS p0 p1 p2; have HS := HS_; clear HS_; have p0 := (HS.mv 1).cell 0; have p1 := (HS.mv 1).cell 1; have p2 := (HS.mv 1).cell 2)
    | ((with_reducible refine gate_ (.store 23 (.tmp 5) (.tmp 18)) rfl ?_); refine ev_store rfl rfl 23 (.tmp 5) (.tmp 18) rfl HS (g := g5) (j := 0) rfl rfl (seg := [.int .i64 0, .int .i64 0, .string ⟨#[]⟩]) rfl ?ht rfl ?hf ?_; (case ht => kernel_rfl); (case hf => first | (simp; done) | (simp [splice]; done)); intro w7 HS_; clear HS p0 p1 p2; have HS : St w S w7 [HP.obj g5 23 [.int .i64 0, .int .i64 0, .string ⟨#[]⟩], HP.obj g3 23 [.int .i64 1, .int .i64 (-5), .string ⟨#[]⟩]] := HS_; clear HS_; have p0 := (HS.mv 1).cell 0; have p1 := (HS.mv 1).cell 1; have p2 := (HS.mv 1).cell 2))
  refine (HCM.out.call (F := [HP.obj g5 23 [.int .i64 0, .int .i64 0, .string ⟨#[]⟩], HP.obj g3 23 [.int .i64 1, .int .i64 (-5), .string ⟨#[]⟩]]) HS (fun _ _ _ _ => trivial)).mono ?_
  rintro e_ w8 ⟨rfl, HS_⟩
  clear HS p0 p1 p2
  go_wp2_with fail
  go_ret
  exact ⟨rfl, (HS_.out 0).out 0⟩
end Go.Proofs.YtnejbilnhebphaaDoor.Val
