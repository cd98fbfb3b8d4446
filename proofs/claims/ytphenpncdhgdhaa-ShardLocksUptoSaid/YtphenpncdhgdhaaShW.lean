/- The document's Within, Holds and Covers, walked. -/
import Derived.Test.YtphenpncdhgdhaaShT
import Derived.Test.YtphenpncdhgdhaaStands
namespace Go.Proofs.Ytphenpncdhgdhaa.Shd
open Go.RowKit Go.Proofs.YtphenpncdhgdhaaW.PrintWords Go.Proofs.YtphenpncdhgdhaaW.PrintLast Go.Proofs.YtphenpncdhgdhaaW.PrintMore Go.Proofs.Ytphenpncdhgdhaa.Sl Go.Proofs.Ytphenpncdhgdhaa.Str Go.Proofs.Ytphenpncdhgdhaa.Ver
set_option linter.unusedVariables false
set_option linter.unusedSimpArgs false
theorem stands_fun (a b : ByteArray) (ha : a.size ≤ 140737488355328) : FunV Try.prog 62 #[.string a, .string b] (fun _ => True) [] (.int .i64 (cmpS a b)) [] := by
  intro w S hS hR
  have HS := St.start hS
  exact (Stands.stands_calls a b ha w).mono (fun e w' ⟨he, hb⟩ => ⟨he, HS.drawn hb⟩)
set_option maxHeartbeats 4000000 in
set_option maxRecDepth 20000 in
theorem withinR_fun (k a b : ByteArray) (hk : k.size ≤ 140737488355328) (ha : a.size ≤ 140737488355328) :
    FunV Try.prog 35 #[.string k, .agg #[.string a, .string b]] (fun _ => True) [] (.bool (inside k a b)) [] := by
  intro w S hS hR
  have HS := St.start hS
  clear hS hR
  have hu24 := Try.underlying24
  unfold inside
  obtain ⟨b1, h1⟩ : ∃ b1, decide (cmpS a k ≤ 0) = b1 := ⟨_, rfl⟩
  obtain ⟨b2, h2⟩ : ∃ b2, decide (cmpS k b < 0) = b2 := ⟨_, rfl⟩
  rw [h1, h2]
  have HA := Aside0.mk (stands_fun a k ha)
  have HB := Aside0.mk (stands_fun k b hk)
  obtain ⟨n1, hn1⟩ : ∃ n, cmpS a k = n := ⟨_, rfl⟩
  obtain ⟨n2, hn2⟩ : ∃ n, cmpS k b = n := ⟨_, rfl⟩
  rw [hn1] at h1 HA
  rw [hn2] at h2 HB
  clear hn1 hn2
  cases b1
  · skip
    go_enter Try.func35, Try.ntmps35
    go_wp2_with (first
      | ((with_reducible refine gate_dst (N := 3) rfl ?_); refine ev_box ?hg (N := 3) ?hd (cs := [.string a, .string b]) (t := 24) HS ?hr ?_; (case hd => rfl); (case hg => rfl); (case hr => first | (go_simp; done) | (go_simp; rfl)); intro g1 w2 HS_ hg_; clear hg_; clear HS; have HS : St w S w2 [HP.obj g1 24 [.string a, .string b]] := HS_; clear HS_; have q3 := HS.cell 0))
    refine ((HA.out).call (F := [HP.obj g1 24 [.string a, .string b]]) HS (fun _ _ _ _ => trivial)).mono ?_
    rintro e_ w4 ⟨rfl, HS_⟩
    clear HS q3
    have HS : St w S w4 [HP.obj g1 24 [.string a, .string b]] := HS_
    clear HS_
    go_wp2_with fail
    go_ret
    exact ⟨rfl, (HS.out 0)⟩
  · cases b2
    · skip
      go_enter Try.func35, Try.ntmps35
      go_wp2_with (first
        | ((with_reducible refine gate_dst (N := 3) rfl ?_); refine ev_box ?hg (N := 3) ?hd (cs := [.string a, .string b]) (t := 24) HS ?hr ?_; (case hd => rfl); (case hg => rfl); (case hr => first | (go_simp; done) | (go_simp; rfl)); intro g1 w2 HS_ hg_; clear hg_; clear HS; have HS : St w S w2 [HP.obj g1 24 [.string a, .string b]] := HS_; clear HS_; have q3 := HS.cell 0))
      refine ((HA.out).call (F := [HP.obj g1 24 [.string a, .string b]]) HS (fun _ _ _ _ => trivial)).mono ?_
      rintro e_ w4 ⟨rfl, HS_⟩
      clear HS q3
      have HS : St w S w4 [HP.obj g1 24 [.string a, .string b]] := HS_
      clear HS_
      have q5 := HS.cell 1
      go_wp2_with fail
      refine ((HB.out).call (F := [HP.obj g1 24 [.string a, .string b]]) HS (fun _ _ _ _ => trivial)).mono ?_
      rintro e_ w6 ⟨rfl, HS_⟩
      clear HS q5
      have HS : St w S w6 [HP.obj g1 24 [.string a, .string b]] := HS_
      clear HS_
      go_wp2_with fail
      go_ret
      exact ⟨rfl, (HS.out 0)⟩
    · skip
      go_enter Try.func35, Try.ntmps35
      go_wp2_with (first
        | ((with_reducible refine gate_dst (N := 3) rfl ?_); refine ev_box ?hg (N := 3) ?hd (cs := [.string a, .string b]) (t := 24) HS ?hr ?_; (case hd => rfl); (case hg => rfl); (case hr => first | (go_simp; done) | (go_simp; rfl)); intro g1 w2 HS_ hg_; clear hg_; clear HS; have HS : St w S w2 [HP.obj g1 24 [.string a, .string b]] := HS_; clear HS_; have q3 := HS.cell 0))
      refine ((HA.out).call (F := [HP.obj g1 24 [.string a, .string b]]) HS (fun _ _ _ _ => trivial)).mono ?_
      rintro e_ w4 ⟨rfl, HS_⟩
      clear HS q3
      have HS : St w S w4 [HP.obj g1 24 [.string a, .string b]] := HS_
      clear HS_
      have q5 := HS.cell 1
      go_wp2_with fail
      refine ((HB.out).call (F := [HP.obj g1 24 [.string a, .string b]]) HS (fun _ _ _ _ => trivial)).mono ?_
      rintro e_ w6 ⟨rfl, HS_⟩
      clear HS q5
      have HS : St w S w6 [HP.obj g1 24 [.string a, .string b]] := HS_
      clear HS_
      go_wp2_with fail
      go_ret
      exact ⟨rfl, (HS.out 0)⟩
set_option maxHeartbeats 4000000 in
set_option maxRecDepth 20000 in
theorem holds_fun (l : Lk) (A1 : Option Addr) (c1 : Nat) (A2 : Option Addr) (c2 : Nat) (key : ByteArray) (hl : l.wrs.length ≤ 1000000) :
    FunV Try.prog 18 #[.agg #[.int .i64 l.t.a, .int .i64 l.t.b, .int .i64 l.t.c, .int .i64 l.home, .int .i64 l.til, .slice A1 l.sps.length c1, .slice A2 l.wrs.length c2], .string key] (fun w => Kd.C kWr w A2 l.wrs.length l.wrs) [] (.bool (l.wrs.any (fun x => decide (x.key = key)))) [] := by
  intro w S hS hR
  have HS := St.start hS
  have HR := Aside0.mk (fun (w' : World) (F : List HP) (h : St w S w' F) => hR w' h.ext)
  obtain ⟨b0, hb0⟩ : ∃ b0, l.wrs.any (fun x => decide (x.key = key)) = b0 := ⟨_, rfl⟩
  rw [hb0]
  have HE := Aside0.mk hb0
  clear hS hR hb0
  have hu62 := Try.underlying62
  have hu64 := Try.underlying64
  have hus := Try.underlying32
  go_enter Try.func18, Try.ntmps18
  go_wp2_with (first
    | ((with_reducible refine gate_dst (N := 2) rfl ?_); refine ev_box ?hg (N := 2) ?hd (cs := [.int .i64 l.t.a, .int .i64 l.t.b, .int .i64 l.t.c, .int .i64 l.home, .int .i64 l.til, .slice A1 l.sps.length c1, .slice A2 l.wrs.length c2]) (t := 62) HS ?hr ?_; (case hd => rfl); (case hg => rfl); (case hr => first | (go_simp; done) | (go_simp; rfl)); intro g1 w2 HS_ hg_; clear hg_; clear HS; have HS : St w S w2 [HP.obj g1 62 [.int .i64 l.t.a, .int .i64 l.t.b, .int .i64 l.t.c, .int .i64 l.home, .int .i64 l.til, .slice A1 l.sps.length c1, .slice A2 l.wrs.length c2]] := HS_; clear HS_))
  go_loopw [5] (fun v5 w' => ∃ k : Nat, k ≤ l.wrs.length ∧ v5 = .int .i64 k ∧ Aside0 ((l.wrs.drop k).any (fun x => decide (x.key = key)) = b0) ∧ St w S w' [HP.obj g1 62 [.int .i64 l.t.a, .int .i64 l.t.b, .int .i64 l.t.c, .int .i64 l.home, .int .i64 l.til, .slice A1 l.sps.length c1, .slice A2 l.wrs.length c2]]) (fun v5 _ => l.wrs.length - (intOf v5).toNat)
  case atStart => exact ⟨0, Nat.zero_le _, rfl, HE, HS⟩
  case round =>
    clear HS HE
    obtain ⟨k, hk, rfl, HE, HS⟩ := hrel
    have hk0 : (0 : Int) ≤ (k : Int) := by omega
    by_cases hlt : k < l.wrs.length
    · skip
      have hltI : (k : Int) < (l.wrs.length : Int) := by omega
      have hwk : IntKind.i64.wrap ((k : Int) + 1) = ((k + 1 : Nat) : Int) := by rw [IntWalk.i64_in _ (by omega)]; omega
      have hd : l.wrs.drop k = l.wrs[k] :: l.wrs.drop (k + 1) := List.drop_eq_getElem_cons hlt
      have hp : l.wrs[k]? = some l.wrs[k] := List.getElem?_eq_getElem hlt
      obtain ⟨x, hxe⟩ : ∃ x, l.wrs[k] = x := ⟨_, rfl⟩
      rw [hxe] at hd hp
      obtain ⟨ad, rfl, -⟩ := Wr_at (HR.out _ _ HS) k x hp
      have HC := Aside0.mk (fun (w' : World) (F : List HP) (h : St w S w' F) => (show w'.cell? (ad.add (k * 3)) = some (.string x.key) ∧ w'.cell? ⟨(ad.add (k * 3)).block, (ad.add (k * 3)).off + 1, none⟩ = some (.string x.val) ∧ w'.cell? ⟨(ad.add (k * 3)).block, (ad.add (k * 3)).off + 2, none⟩ = some (.bool x.dead) from by obtain ⟨ad', e, q⟩ := Wr_at (HR.out _ _ h) k x hp; obtain rfl := Option.some.inj e; exact q))
      have he := HE.out
      rw [hd, List.any_cons] at he
      clear hd hp hxe HE
      rw [← ba_beq] at he
      cases hb : (x.key.toList == key.toList)
      · rw [hb] at he
        have HE2 := Aside0.mk (show (l.wrs.drop (k + 1)).any (fun x => decide (x.key = key)) = b0 from by simpa using he)
        clear he
        have q3 := HS.cell 6
        obtain ⟨q4, q5, q6⟩ := HC.out _ _ HS
        go_wp2_with fail
        go_roundw
        case rel => exact ⟨k + 1, by omega, by go_num, HE2, HS⟩
        case measure => simp [intOf]; omega
      · rw [hb] at he
        have HE2 := Aside0.mk (show true = b0 from by simpa using he)
        clear he
        have q7 := HS.cell 6
        obtain ⟨q8, q9, q10⟩ := HC.out _ _ HS
        go_wp2_with fail
        go_ret
        obtain rfl := HE2.out
        exact ⟨rfl, (HS.out 0)⟩
    · have hltI : ¬ (k : Int) < (l.wrs.length : Int) := by omega
      have HE2 := Aside0.mk (show false = b0 by have he := HE.out; rw [List.drop_eq_nil_of_le (by omega)] at he; exact he)
      clear HE
      have q11 := HS.cell 6
      go_wp2_with fail
      go_ret
      obtain rfl := HE2.out
      exact ⟨rfl, (HS.out 0)⟩
set_option maxHeartbeats 4000000 in
set_option maxRecDepth 20000 in
theorem covers_fun (l : Lk) (A1 : Option Addr) (c1 : Nat) (A2 : Option Addr) (c2 : Nat) (key : ByteArray) (hl : l.sps.length ≤ 1000000) (hsz : key.size ≤ 140737488355328 ∧ ∀ p ∈ l.sps, p.a.size ≤ 140737488351232) :
    FunV Try.prog 19 #[.agg #[.int .i64 l.t.a, .int .i64 l.t.b, .int .i64 l.t.c, .int .i64 l.home, .int .i64 l.til, .slice A1 l.sps.length c1, .slice A2 l.wrs.length c2], .string key] (fun w => Kd.C kSp w A1 l.sps.length l.sps) [] (.bool (l.sps.any (fun x => inside key x.a x.b))) [] := by
  intro w S hS hR
  have HS := St.start hS
  have HR := Aside0.mk (fun (w' : World) (F : List HP) (h : St w S w' F) => hR w' h.ext)
  obtain ⟨b0, hb0⟩ : ∃ b0, l.sps.any (fun x => inside key x.a x.b) = b0 := ⟨_, rfl⟩
  rw [hb0]
  have HE := Aside0.mk hb0
  have HSZ := Aside0.mk hsz
  clear hsz
  clear hS hR hb0
  have hu62 := Try.underlying62
  have hu24 := Try.underlying24
  have hus := Try.underlying60
  go_enter Try.func19, Try.ntmps19
  go_wp2_with (first
    | ((with_reducible refine gate_dst (N := 2) rfl ?_); refine ev_box ?hg (N := 2) ?hd (cs := [.int .i64 l.t.a, .int .i64 l.t.b, .int .i64 l.t.c, .int .i64 l.home, .int .i64 l.til, .slice A1 l.sps.length c1, .slice A2 l.wrs.length c2]) (t := 62) HS ?hr ?_; (case hd => rfl); (case hg => rfl); (case hr => first | (go_simp; done) | (go_simp; rfl)); intro g1 w2 HS_ hg_; clear hg_; clear HS; have HS : St w S w2 [HP.obj g1 62 [.int .i64 l.t.a, .int .i64 l.t.b, .int .i64 l.t.c, .int .i64 l.home, .int .i64 l.til, .slice A1 l.sps.length c1, .slice A2 l.wrs.length c2]] := HS_; clear HS_))
  go_loopw [5] (fun v5 w' => ∃ k : Nat, k ≤ l.sps.length ∧ v5 = .int .i64 k ∧ Aside0 ((l.sps.drop k).any (fun x => inside key x.a x.b) = b0) ∧ St w S w' [HP.obj g1 62 [.int .i64 l.t.a, .int .i64 l.t.b, .int .i64 l.t.c, .int .i64 l.home, .int .i64 l.til, .slice A1 l.sps.length c1, .slice A2 l.wrs.length c2]]) (fun v5 _ => l.sps.length - (intOf v5).toNat)
  case atStart => exact ⟨0, Nat.zero_le _, rfl, HE, HS⟩
  case round =>
    clear HS HE
    obtain ⟨k, hk, rfl, HE, HS⟩ := hrel
    have hk0 : (0 : Int) ≤ (k : Int) := by omega
    by_cases hlt : k < l.sps.length
    · skip
      have hltI : (k : Int) < (l.sps.length : Int) := by omega
      have hwk : IntKind.i64.wrap ((k : Int) + 1) = ((k + 1 : Nat) : Int) := by rw [IntWalk.i64_in _ (by omega)]; omega
      have hd : l.sps.drop k = l.sps[k] :: l.sps.drop (k + 1) := List.drop_eq_getElem_cons hlt
      have hp : l.sps[k]? = some l.sps[k] := List.getElem?_eq_getElem hlt
      have hz := HSZ.out.2 l.sps[k] (List.getElem_mem hlt)
      obtain ⟨x, hxe⟩ : ∃ x, l.sps[k] = x := ⟨_, rfl⟩
      rw [hxe] at hd hp hz
      obtain ⟨ad, rfl, -⟩ := Sp_at (HR.out _ _ HS) k x hp
      have HC := Aside0.mk (fun (w' : World) (F : List HP) (h : St w S w' F) => (show w'.cell? (ad.add (k * 2)) = some (.string x.a) ∧ w'.cell? ⟨(ad.add (k * 2)).block, (ad.add (k * 2)).off + 1, none⟩ = some (.string x.b) from by obtain ⟨ad', e, q⟩ := Sp_at (HR.out _ _ h) k x hp; obtain rfl := Option.some.inj e; exact q))
      have he := HE.out
      rw [hd, List.any_cons] at he
      clear hd hp hxe HE
      obtain ⟨b, hb⟩ : ∃ b, inside key x.a x.b = b := ⟨_, rfl⟩
      have HI := Aside0.mk (show FunV Try.prog 35 #[.string key, .agg #[.string x.a, .string x.b]] (fun _ => True) [] (.bool b) [] from by rw [← hb]; exact withinR_fun key x.a x.b HSZ.out.1 (Nat.le_trans hz (by decide)))
      rw [hb] at he
      clear hb hz
      cases b
      · skip
        have HE2 := Aside0.mk (show (l.sps.drop (k + 1)).any (fun x => inside key x.a x.b) = b0 from by simpa using he)
        clear he
        have q3 := HS.cell 5
        obtain ⟨q4, q5⟩ := HC.out _ _ HS
        go_wp2_with fail
        refine ((HI.out).call (F := [HP.obj g1 62 [.int .i64 l.t.a, .int .i64 l.t.b, .int .i64 l.t.c, .int .i64 l.home, .int .i64 l.til, .slice (some ad) l.sps.length c1, .slice A2 l.wrs.length c2]]) HS (fun _ _ _ _ => trivial)).mono ?_
        rintro e_ w6 ⟨rfl, HS_⟩
        clear HS q3 q4 q5
        have HS : St w S w6 [HP.obj g1 62 [.int .i64 l.t.a, .int .i64 l.t.b, .int .i64 l.t.c, .int .i64 l.home, .int .i64 l.til, .slice (some ad) l.sps.length c1, .slice A2 l.wrs.length c2]] := HS_
        clear HS_
        go_wp2_with fail
        go_roundw
        case rel => exact ⟨k + 1, by omega, by go_num, HE2, HS⟩
        case measure => simp [intOf]; omega
      · skip
        have HE2 := Aside0.mk (show true = b0 from by simpa using he)
        clear he
        have q7 := HS.cell 5
        obtain ⟨q8, q9⟩ := HC.out _ _ HS
        go_wp2_with fail
        refine ((HI.out).call (F := [HP.obj g1 62 [.int .i64 l.t.a, .int .i64 l.t.b, .int .i64 l.t.c, .int .i64 l.home, .int .i64 l.til, .slice (some ad) l.sps.length c1, .slice A2 l.wrs.length c2]]) HS (fun _ _ _ _ => trivial)).mono ?_
        rintro e_ w10 ⟨rfl, HS_⟩
        clear HS q7 q8 q9
        have HS : St w S w10 [HP.obj g1 62 [.int .i64 l.t.a, .int .i64 l.t.b, .int .i64 l.t.c, .int .i64 l.home, .int .i64 l.til, .slice (some ad) l.sps.length c1, .slice A2 l.wrs.length c2]] := HS_
        clear HS_
        go_wp2_with fail
        go_ret
        obtain rfl := HE2.out
        exact ⟨rfl, (HS.out 0)⟩
    · have hltI : ¬ (k : Int) < (l.sps.length : Int) := by omega
      have HE2 := Aside0.mk (show false = b0 by have he := HE.out; rw [List.drop_eq_nil_of_le (by omega)] at he; exact he)
      clear HE
      have q11 := HS.cell 5
      go_wp2_with fail
      go_ret
      obtain rfl := HE2.out
      exact ⟨rfl, (HS.out 0)⟩
end Go.Proofs.Ytphenpncdhgdhaa.Shd
