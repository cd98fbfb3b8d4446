/- The law of cells, walked. -/
import Derived.Test.YtkhbmamcbhjafaaAwkX
import Derived.Test.YtkhbmamcbhjafaaCellsR
import Derived.Test.YtkhbmamcbhjafaaCellsE
import Derived.Test.YtkhbmamcbhjafaaRefPut
namespace Go.Proofs.Ytkhbmamcbhjafaa.Keys
open Go.RowKit Go.Proofs.YtkhbmamcbhjafaaW.PrintWords Go.Proofs.YtkhbmamcbhjafaaW.PrintLast Go.Proofs.YtkhbmamcbhjafaaW.PrintMore Go.Proofs.Ytkhbmamcbhjafaa.Str Go.Proofs.Ytkhbmamcbhjafaa.PRef Go.Proofs.Ytkhbmamcbhjafaa.Stands Go.Proofs.Ytkhbmamcbhjafaa.Sl
set_option linter.unusedVariables false
set_option linter.unusedSimpArgs false
theorem put_size (l : List C) (h : l.length ≤ 300) (p : ByteArray) (f : Int) (hp : put l = (p, f)) : p.size ≤ 100000 := by
  unfold put at hp
  by_cases ho : okC 0 l = true
  · rw [if_pos ho] at hp
    have h1 : (⟨(putL l).toArray⟩ : ByteArray) = p := (Prod.mk.inj hp).1
    have h2 := putL_le l 0 ho
    rw [← h1, mk_size]
    omega
  · rw [if_neg ho] at hp
    have h1 : (⟨#[]⟩ : ByteArray) = p := (Prod.mk.inj hp).1
    rw [← h1]
    decide
set_option maxHeartbeats 4000000 in
set_option maxRecDepth 20000 in
theorem rowsCells_fun (A : Option Addr) (c : Nat) (l : List C) (hc : l.length ≤ c) (h64 : C64 l) (hl : l.length * 40 ≤ 140737488351232) (s : ByteArray) (hs : s.size ≤ 140737488351232) :
    FunV Try.prog 7 #[.slice A l.length c, .string s] (fun w => Kd.C kC w A l.length l) [] (.bool true) [] := by
  intro w S hS hR
  have HS := St.start hS
  clear hS
  have hu1 := Try.underlying24
  go_enter Try.func7, Try.ntmps7
  go_wp2_with fail
  refine (awake_fun.call (F := []) HS (fun _ _ _ _ => trivial)).mono ?_
  rintro e_ w1 ⟨rfl, HS_⟩
  clear HS
  have HS := HS_
  clear HS_
  by_cases g1 : l.length > 300
  · have hb1 : decide ((l.length : Int) > 300) = true := decide_eq_true (by omega)
    go_wp2_with fail
    refine (awake_fun.call (F := []) HS (fun _ _ _ _ => trivial)).mono ?_
    rintro e_ w2 ⟨rfl, HS_⟩
    clear HS
    have HS := HS_
    clear HS_
    go_wp2
    go_ret
    exact ⟨rfl, HS⟩
  · have hb1 : decide ((l.length : Int) > 300) = false := decide_eq_false (by omega)
    by_cases g2 : s.size > 16384
    · have hb2 : decide ((s.size : Int) > 16384) = true := decide_eq_true (by omega)
      go_wp2_with fail
      refine (awake_fun.call (F := []) HS (fun _ _ _ _ => trivial)).mono ?_
      rintro e_ w2 ⟨rfl, HS_⟩
      clear HS
      have HS := HS_
      clear HS_
      go_wp2
      go_ret
      exact ⟨rfl, HS⟩
    · have hb2 : decide ((s.size : Int) > 16384) = false := decide_eq_false (by omega)
      obtain ⟨p, f, hp, hpf⟩ := put_code l
      have hput := rows_put_eq l h64 hl _ (Nat.le_refl _)
      rw [hp] at hput
      have HPUT := Aside0.mk hp
      have hps := put_size l (by omega) p f hp
      have hpp : (p.toList == p.toList) = true := by simp
      have hss : (s.toList == s.toList) = true := by simp
      go_wp2_with fail
      refine (rows_Put.calls _ A c l p f w1 (hR w1 HS.ext) hc hput).mono ?_
      rintro e_ w2 ⟨rfl, hb⟩
      have HS_ := HS.later hb
      clear HS hb
      have HS := HS_
      clear HS_
      go_wp2_with fail
      refine ((ref_put_fun A c l hc h64 hl p f HPUT.out).call (F := []) HS (fun w_ _ h1 _ => hR w_ h1)).mono ?_
      rintro e_ w3 ⟨rfl, HS_⟩
      clear HS
      have HS := HS_
      clear HS_
      clear hput
      rcases hpf with rfl | rfl
      · have hgp := get_put l h64 p hp
        go_wp2_with fail
        refine ((get_fun p hps).call (F := []) HS (fun _ _ _ _ => trivial)).mono ?_
        rintro e_ w4 ⟨v4, rfl, H1⟩
        obtain ⟨u4, H2⟩ := St.ex_ H1
        obtain ⟨hv4, HS4⟩ := St.and_ H2
        subst hv4
        clear HS H1 H2
        rw [hgp] at HS4 ⊢
        obtain ⟨A4, c4, e4, hc4, hC4⟩ := St.row_C HS4
        subst e4
        change Kd.C kC w4 A4 l.length l at hC4
        change l.length ≤ c4 at hc4
        have hsame1 := samec_eq l l (by omega) true (by simp)
        have HSx : St w S w4 [] := HS4.out 0
        clear HS4 hgp hp
        go_wp2_with fail
        refine (lintelref20_SameCells.calls _ A4 c4 l A c l true w4 hC4 hc4 (hR w4 HSx.ext) hc hsame1).mono ?_
        rintro e_ w5 ⟨rfl, hb⟩
        have HS := HSx.drawn hb
        clear HSx hb hC4 hsame1
        have hsz : s.size ≤ 100000 := by omega
        go_wp2_with fail
        refine ((get_fun s hsz).call (F := []) HS (fun _ _ _ _ => trivial)).mono ?_
        rintro e_ w6 ⟨v6, rfl, H1⟩
        obtain ⟨u6, H2⟩ := St.ex_ H1
        obtain ⟨hv6, HS6⟩ := St.and_ H2
        subst hv6
        clear HS H1 H2
        obtain ⟨A6, c6, e6, hc6, hC6⟩ := St.row_C HS6
        subst e6
        clear hC6
        go_wp2_with fail
        refine ((ref_get_fun s hsz).call (F := [HP.row kC 73 (.slice A6 (get s).1.length c6) (get s).1]) HS6 (fun _ _ _ _ => trivial)).mono ?_
        rintro e_ w7 ⟨v7, rfl, H1⟩
        obtain ⟨u7, H2⟩ := St.ex_ H1
        obtain ⟨hv7, HS7⟩ := St.and_ H2
        subst hv7
        clear HS6 H1 H2
        obtain ⟨A7, c7, e7, hc7, hC7⟩ := St.row_C HS7
        subst e7
        clear hC7
        obtain ⟨l2, e2, p2, hg, h642, hl2, hp2, hcase⟩ : ∃ l2 e2 p2, get s = (l2, e2) ∧ C64 l2 ∧ l2.length ≤ 100000 ∧ put l2 = (p2, 0) ∧ ((e2 = 0 ∧ p2 = s) ∨ e2 = 100) := by
          rcases get_cases s with ⟨l2, a1, a2, a3, a4⟩ | a1
          · exact ⟨l2, 0, s, a1, a3, by omega, a2, .inl ⟨rfl, rfl⟩⟩
          · exact ⟨[], 100, ⟨#[]⟩, a1, c64_nil, by simp, rfl, .inr rfl⟩
        rw [hg] at HS7 hc6 hc7 ⊢
        have hsame := samec_eq l2 l2 (by omega) true (by simp)
        have hput2 := rows_put_eq l2 h642 (by omega) _ (Nat.le_refl _)
        rw [hp2] at hput2
        change St w S w7 [HP.row kC 73 (.slice A7 l2.length c7) l2, HP.row kC 73 (.slice A6 l2.length c6) l2] at HS7
        change l2.length ≤ c6 at hc6
        change l2.length ≤ c7 at hc7
        rcases hcase with ⟨rfl, rfl⟩ | rfl
        · clear hg hp2
          go_wp2_with fail
          refine (lintelref20_SameCells.calls _ A6 c6 l2 A7 c7 l2 true w7 (St.row_reads (HS7.mv 1)).2.2 hc6 (St.row_reads HS7).2.2 hc7 hsame).mono ?_
          rintro e_ w8 ⟨rfl, hb⟩
          have HS8 := HS7.drawn hb
          clear HS7 hb
          go_wp2_with fail
          refine (rows_Put.calls _ A6 c6 l2 _ 0 w8 (St.row_reads (HS8.mv 1)).2.2 hc6 hput2).mono ?_
          rintro e_ w9 ⟨rfl, hb⟩
          have HS9 := HS8.later hb
          clear HS8 hb
          go_wp2
          go_ret
          exact ⟨rfl, (HS9.out 0).out 0⟩
        · clear hg hp2
          go_wp2_with fail
          refine (lintelref20_SameCells.calls _ A6 c6 l2 A7 c7 l2 true w7 (St.row_reads (HS7.mv 1)).2.2 hc6 (St.row_reads HS7).2.2 hc7 hsame).mono ?_
          rintro e_ w8 ⟨rfl, hb⟩
          have HS8 := HS7.drawn hb
          clear HS7 hb
          go_wp2_with fail
          refine (rows_Put.calls _ A6 c6 l2 _ 0 w8 (St.row_reads (HS8.mv 1)).2.2 hc6 hput2).mono ?_
          rintro e_ w9 ⟨rfl, hb⟩
          have HS9 := HS8.later hb
          clear HS8 hb
          go_wp2
          go_ret
          exact ⟨rfl, (HS9.out 0).out 0⟩
      · clear hp
        have hsz : s.size ≤ 100000 := by omega
        go_wp2_with fail
        refine ((get_fun s hsz).call (F := []) HS (fun _ _ _ _ => trivial)).mono ?_
        rintro e_ w6 ⟨v6, rfl, H1⟩
        obtain ⟨u6, H2⟩ := St.ex_ H1
        obtain ⟨hv6, HS6⟩ := St.and_ H2
        subst hv6
        clear HS H1 H2
        obtain ⟨A6, c6, e6, hc6, hC6⟩ := St.row_C HS6
        subst e6
        clear hC6
        go_wp2_with fail
        refine ((ref_get_fun s hsz).call (F := [HP.row kC 73 (.slice A6 (get s).1.length c6) (get s).1]) HS6 (fun _ _ _ _ => trivial)).mono ?_
        rintro e_ w7 ⟨v7, rfl, H1⟩
        obtain ⟨u7, H2⟩ := St.ex_ H1
        obtain ⟨hv7, HS7⟩ := St.and_ H2
        subst hv7
        clear HS6 H1 H2
        obtain ⟨A7, c7, e7, hc7, hC7⟩ := St.row_C HS7
        subst e7
        clear hC7
        obtain ⟨l2, e2, p2, hg, h642, hl2, hp2, hcase⟩ : ∃ l2 e2 p2, get s = (l2, e2) ∧ C64 l2 ∧ l2.length ≤ 100000 ∧ put l2 = (p2, 0) ∧ ((e2 = 0 ∧ p2 = s) ∨ e2 = 100) := by
          rcases get_cases s with ⟨l2, a1, a2, a3, a4⟩ | a1
          · exact ⟨l2, 0, s, a1, a3, by omega, a2, .inl ⟨rfl, rfl⟩⟩
          · exact ⟨[], 100, ⟨#[]⟩, a1, c64_nil, by simp, rfl, .inr rfl⟩
        rw [hg] at HS7 hc6 hc7 ⊢
        have hsame := samec_eq l2 l2 (by omega) true (by simp)
        have hput2 := rows_put_eq l2 h642 (by omega) _ (Nat.le_refl _)
        rw [hp2] at hput2
        change St w S w7 [HP.row kC 73 (.slice A7 l2.length c7) l2, HP.row kC 73 (.slice A6 l2.length c6) l2] at HS7
        change l2.length ≤ c6 at hc6
        change l2.length ≤ c7 at hc7
        rcases hcase with ⟨rfl, rfl⟩ | rfl
        · clear hg hp2
          go_wp2_with fail
          refine (lintelref20_SameCells.calls _ A6 c6 l2 A7 c7 l2 true w7 (St.row_reads (HS7.mv 1)).2.2 hc6 (St.row_reads HS7).2.2 hc7 hsame).mono ?_
          rintro e_ w8 ⟨rfl, hb⟩
          have HS8 := HS7.drawn hb
          clear HS7 hb
          go_wp2_with fail
          refine (rows_Put.calls _ A6 c6 l2 _ 0 w8 (St.row_reads (HS8.mv 1)).2.2 hc6 hput2).mono ?_
          rintro e_ w9 ⟨rfl, hb⟩
          have HS9 := HS8.later hb
          clear HS8 hb
          go_wp2
          go_ret
          exact ⟨rfl, (HS9.out 0).out 0⟩
        · clear hg hp2
          go_wp2_with fail
          refine (lintelref20_SameCells.calls _ A6 c6 l2 A7 c7 l2 true w7 (St.row_reads (HS7.mv 1)).2.2 hc6 (St.row_reads HS7).2.2 hc7 hsame).mono ?_
          rintro e_ w8 ⟨rfl, hb⟩
          have HS8 := HS7.drawn hb
          clear HS7 hb
          go_wp2_with fail
          refine (rows_Put.calls _ A6 c6 l2 _ 0 w8 (St.row_reads (HS8.mv 1)).2.2 hc6 hput2).mono ?_
          rintro e_ w9 ⟨rfl, hb⟩
          have HS9 := HS8.later hb
          clear HS8 hb
          go_wp2
          go_ret
          exact ⟨rfl, (HS9.out 0).out 0⟩
end Go.Proofs.Ytkhbmamcbhjafaa.Keys
