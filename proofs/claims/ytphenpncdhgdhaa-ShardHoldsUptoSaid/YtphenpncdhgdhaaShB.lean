/- slices.IndexFunc, ContainsFunc, EqualFunc, walked. -/
import Derived.Test.YtphenpncdhgdhaaShA
namespace Go.Proofs.Ytphenpncdhgdhaa.Shd
open Go.RowKit Go.Proofs.YtphenpncdhgdhaaW.PrintWords Go.Proofs.YtphenpncdhgdhaaW.PrintLast Go.Proofs.YtphenpncdhgdhaaW.PrintMore Go.Proofs.Ytphenpncdhgdhaa.Sl Go.Proofs.Ytphenpncdhgdhaa.Str Go.Proofs.Ytphenpncdhgdhaa.Ver
set_option linter.unusedVariables false
set_option linter.unusedSimpArgs false
theorem szShB51 : (Try.prog.info? 51).map (·.size) = some 3 := by kernel_rfl
theorem szShB53 : (Try.prog.info? 53).map (·.size) = some 2 := by kernel_rfl
set_option maxHeartbeats 4000000 in
set_option maxRecDepth 20000 in
theorem idxWr_fun (f : FuncId) (cap : Value) (p : Wr → Bool) (H : HP) (hen : ∀ (args : Array Value) (w : World), (callFunc f args).run Try.prog w = .ok (.enter f args) w)
    (hf : ∀ x : Wr, FunV Try.prog f #[.agg #[.string x.key, .string x.val, .bool x.dead], cap] (fun _ => True) [H] (.bool (p x)) [H]) (A : Option Addr) (c : Nat) (xs : List Wr) (e0 : Int) (he : idxFrom p xs 0 = e0) (hl : xs.length ≤ 140737488355328) :
    FunV Try.prog 91 #[.slice A xs.length c, fcl f cap] (fun w => Kd.C kWr w A xs.length xs) [H] (.int .i64 e0) [H] := by
  intro w S hS hR
  have HS := St.start hS
  have HR := Aside0.mk (fun (w' : World) (F : List HP) (h : St w S w' F) => hR w' h.ext)
  have HN := Aside0.mk hen
  have HF := Aside0.mk hf
  have HE := Aside0.mk he
  clear hS hR hen hf he
  have hu64 := Try.underlying64
  have hus := Try.underlying32
  go_enter Try.func91, Try.ntmps91
  go_wp2_with fail
  go_loopw [8] (fun v8 w' => ∃ k : Nat, k ≤ xs.length ∧ v8 = .int .i64 k ∧ Aside0 (idxFrom p (xs.drop k) k = e0) ∧ St w S w' [H]) (fun v8 _ => xs.length - (intOf v8).toNat)
  case atStart => exact ⟨0, Nat.zero_le _, rfl, HE, HS⟩
  case round =>
    clear HS HE
    obtain ⟨k, hk, rfl, HE, HS⟩ := hrel
    have hk0 : (0 : Int) ≤ (k : Int) := by omega
    by_cases hlt : k < xs.length
    · have hltI : (k : Int) < (xs.length : Int) := by omega
      have hwk : IntKind.i64.wrap ((k : Int) + 1) = ((k + 1 : Nat) : Int) := by rw [IntWalk.i64_in _ (by omega)]; omega
      have hd : xs.drop k = xs[k] :: xs.drop (k + 1) := List.drop_eq_getElem_cons hlt
      have hx : xs[k]? = some xs[k] := List.getElem?_eq_getElem hlt
      obtain ⟨x, hxe⟩ : ∃ x, xs[k] = x := ⟨_, rfl⟩
      rw [hxe] at hd hx
      obtain ⟨ad, rfl, q0, q1, q2⟩ := Wr_at (HR.out _ _ HS) k x hx
      have HX := Aside0.mk (HF.out x)
      have hnf := HN.out
      have he := HE.out
      rw [hd, idxFrom] at he
      clear hd hx hxe
      cases hp : p x
      · rw [hp] at he HX
        have HE2 := Aside0.mk (show idxFrom p (xs.drop (k + 1)) (k + 1) = e0 from he)
        clear he hp HE
        go_wp2_with fail
        refine ((HX.out).call (F := []) HS (fun _ _ _ _ => trivial)).mono ?_
        rintro e_ w1 ⟨rfl, HS_⟩
        clear HS
        have HS : St w S w1 [H] := HS_
        clear HS_
        clear q0 q1 q2
        go_wp2_with fail
        go_roundw
        case rel => exact ⟨k + 1, by omega, by go_num, HE2, HS⟩
        case measure => simp [intOf]; omega
      · rw [hp] at he HX
        have HE2 := Aside0.mk (show (k : Int) = e0 from he)
        clear he hp HE
        go_wp2_with fail
        refine ((HX.out).call (F := []) HS (fun _ _ _ _ => trivial)).mono ?_
        rintro e_ w2 ⟨rfl, HS_⟩
        clear HS
        have HS : St w S w2 [H] := HS_
        clear HS_
        clear q0 q1 q2
        go_wp2_with fail
        go_ret
        obtain rfl := HE2.out
        exact ⟨rfl, HS⟩
    · have hltI : ¬ (k : Int) < (xs.length : Int) := by omega
      have HE2 := Aside0.mk (show (-1 : Int) = e0 by have he := HE.out; rw [List.drop_eq_nil_of_le (by omega)] at he; exact he)
      clear HE
      go_wp2_with fail
      go_ret
      obtain rfl := HE2.out
      exact ⟨rfl, HS⟩
set_option maxHeartbeats 4000000 in
set_option maxRecDepth 20000 in
theorem idxSp_fun (f : FuncId) (cap : Value) (p : Sp → Bool) (H : HP) (hen : ∀ (args : Array Value) (w : World), (callFunc f args).run Try.prog w = .ok (.enter f args) w)
    (hf : ∀ x : Sp, FunV Try.prog f #[.agg #[.string x.a, .string x.b], cap] (fun _ => True) [H] (.bool (p x)) [H]) (A : Option Addr) (c : Nat) (xs : List Sp) (e0 : Int) (he : idxFrom p xs 0 = e0) (hl : xs.length ≤ 140737488355328) :
    FunV Try.prog 92 #[.slice A xs.length c, fcl f cap] (fun w => Kd.C kSp w A xs.length xs) [H] (.int .i64 e0) [H] := by
  intro w S hS hR
  have HS := St.start hS
  have HR := Aside0.mk (fun (w' : World) (F : List HP) (h : St w S w' F) => hR w' h.ext)
  have HN := Aside0.mk hen
  have HF := Aside0.mk hf
  have HE := Aside0.mk he
  clear hS hR hen hf he
  have hu24 := Try.underlying24
  have hus := Try.underlying60
  go_enter Try.func92, Try.ntmps92
  go_wp2_with fail
  go_loopw [8] (fun v8 w' => ∃ k : Nat, k ≤ xs.length ∧ v8 = .int .i64 k ∧ Aside0 (idxFrom p (xs.drop k) k = e0) ∧ St w S w' [H]) (fun v8 _ => xs.length - (intOf v8).toNat)
  case atStart => exact ⟨0, Nat.zero_le _, rfl, HE, HS⟩
  case round =>
    clear HS HE
    obtain ⟨k, hk, rfl, HE, HS⟩ := hrel
    have hk0 : (0 : Int) ≤ (k : Int) := by omega
    by_cases hlt : k < xs.length
    · have hltI : (k : Int) < (xs.length : Int) := by omega
      have hwk : IntKind.i64.wrap ((k : Int) + 1) = ((k + 1 : Nat) : Int) := by rw [IntWalk.i64_in _ (by omega)]; omega
      have hd : xs.drop k = xs[k] :: xs.drop (k + 1) := List.drop_eq_getElem_cons hlt
      have hx : xs[k]? = some xs[k] := List.getElem?_eq_getElem hlt
      obtain ⟨x, hxe⟩ : ∃ x, xs[k] = x := ⟨_, rfl⟩
      rw [hxe] at hd hx
      obtain ⟨ad, rfl, q0, q1⟩ := Sp_at (HR.out _ _ HS) k x hx
      have HX := Aside0.mk (HF.out x)
      have hnf := HN.out
      have he := HE.out
      rw [hd, idxFrom] at he
      clear hd hx hxe
      cases hp : p x
      · rw [hp] at he HX
        have HE2 := Aside0.mk (show idxFrom p (xs.drop (k + 1)) (k + 1) = e0 from he)
        clear he hp HE
        go_wp2_with fail
        refine ((HX.out).call (F := []) HS (fun _ _ _ _ => trivial)).mono ?_
        rintro e_ w1 ⟨rfl, HS_⟩
        clear HS
        have HS : St w S w1 [H] := HS_
        clear HS_
        clear q0 q1
        go_wp2_with fail
        go_roundw
        case rel => exact ⟨k + 1, by omega, by go_num, HE2, HS⟩
        case measure => simp [intOf]; omega
      · rw [hp] at he HX
        have HE2 := Aside0.mk (show (k : Int) = e0 from he)
        clear he hp HE
        go_wp2_with fail
        refine ((HX.out).call (F := []) HS (fun _ _ _ _ => trivial)).mono ?_
        rintro e_ w2 ⟨rfl, HS_⟩
        clear HS
        have HS : St w S w2 [H] := HS_
        clear HS_
        clear q0 q1
        go_wp2_with fail
        go_ret
        obtain rfl := HE2.out
        exact ⟨rfl, HS⟩
    · have hltI : ¬ (k : Int) < (xs.length : Int) := by omega
      have HE2 := Aside0.mk (show (-1 : Int) = e0 by have he := HE.out; rw [List.drop_eq_nil_of_le (by omega)] at he; exact he)
      clear HE
      go_wp2_with fail
      go_ret
      obtain rfl := HE2.out
      exact ⟨rfl, HS⟩
set_option maxHeartbeats 4000000 in
set_option maxRecDepth 20000 in
theorem idxLp_fun (f : FuncId) (cap : Value) (p : Lp → Bool) (H : HP) (hen : ∀ (args : Array Value) (w : World), (callFunc f args).run Try.prog w = .ok (.enter f args) w)
    (hf : ∀ x : Lp, FunV Try.prog f #[.agg #[.int .i64 x.l.t.a, .int .i64 x.l.t.b, .int .i64 x.l.t.c, .int .i64 x.l.home, .int .i64 x.l.til, x.u, x.v], cap] (fun _ => True) [H] (.bool (p x)) [H]) (A : Option Addr) (c : Nat) (xs : List Lp) (e0 : Int) (he : idxFrom p xs 0 = e0) (hl : xs.length ≤ 140737488355328) :
    FunV Try.prog 73 #[.slice A xs.length c, fcl f cap] (fun w => Kd.C kLp w A xs.length xs) [H] (.int .i64 e0) [H] := by
  intro w S hS hR
  have HS := St.start hS
  have HR := Aside0.mk (fun (w' : World) (F : List HP) (h : St w S w' F) => hR w' h.ext)
  have HN := Aside0.mk hen
  have HF := Aside0.mk hf
  have HE := Aside0.mk he
  clear hS hR hen hf he
  have hu62 := Try.underlying62
  have hus := Try.underlying58
  go_enter Try.func73, Try.ntmps73
  go_wp2_with fail
  go_loopw [8] (fun v8 w' => ∃ k : Nat, k ≤ xs.length ∧ v8 = .int .i64 k ∧ Aside0 (idxFrom p (xs.drop k) k = e0) ∧ St w S w' [H]) (fun v8 _ => xs.length - (intOf v8).toNat)
  case atStart => exact ⟨0, Nat.zero_le _, rfl, HE, HS⟩
  case round =>
    clear HS HE
    obtain ⟨k, hk, rfl, HE, HS⟩ := hrel
    have hk0 : (0 : Int) ≤ (k : Int) := by omega
    by_cases hlt : k < xs.length
    · have hltI : (k : Int) < (xs.length : Int) := by omega
      have hwk : IntKind.i64.wrap ((k : Int) + 1) = ((k + 1 : Nat) : Int) := by rw [IntWalk.i64_in _ (by omega)]; omega
      have hd : xs.drop k = xs[k] :: xs.drop (k + 1) := List.drop_eq_getElem_cons hlt
      have hx : xs[k]? = some xs[k] := List.getElem?_eq_getElem hlt
      obtain ⟨x, hxe⟩ : ∃ x, xs[k] = x := ⟨_, rfl⟩
      rw [hxe] at hd hx
      obtain ⟨ad, rfl, q0, q1, q2, q3, q4, q5, q6⟩ := Lp_at (HR.out _ _ HS) k x hx
      have HX := Aside0.mk (HF.out x)
      have hnf := HN.out
      have he := HE.out
      rw [hd, idxFrom] at he
      clear hd hx hxe
      cases hp : p x
      · rw [hp] at he HX
        have HE2 := Aside0.mk (show idxFrom p (xs.drop (k + 1)) (k + 1) = e0 from he)
        clear he hp HE
        go_wp2_with fail
        refine ((HX.out).call (F := []) HS (fun _ _ _ _ => trivial)).mono ?_
        rintro e_ w1 ⟨rfl, HS_⟩
        clear HS
        have HS : St w S w1 [H] := HS_
        clear HS_
        clear q0 q1 q2 q3 q4 q5 q6
        go_wp2_with fail
        go_roundw
        case rel => exact ⟨k + 1, by omega, by go_num, HE2, HS⟩
        case measure => simp [intOf]; omega
      · rw [hp] at he HX
        have HE2 := Aside0.mk (show (k : Int) = e0 from he)
        clear he hp HE
        go_wp2_with fail
        refine ((HX.out).call (F := []) HS (fun _ _ _ _ => trivial)).mono ?_
        rintro e_ w2 ⟨rfl, HS_⟩
        clear HS
        have HS : St w S w2 [H] := HS_
        clear HS_
        clear q0 q1 q2 q3 q4 q5 q6
        go_wp2_with fail
        go_ret
        obtain rfl := HE2.out
        exact ⟨rfl, HS⟩
    · have hltI : ¬ (k : Int) < (xs.length : Int) := by omega
      have HE2 := Aside0.mk (show (-1 : Int) = e0 by have he := HE.out; rw [List.drop_eq_nil_of_le (by omega)] at he; exact he)
      clear HE
      go_wp2_with fail
      go_ret
      obtain rfl := HE2.out
      exact ⟨rfl, HS⟩
set_option maxHeartbeats 4000000 in
set_option maxRecDepth 20000 in
theorem hasWr_fun (f : FuncId) (cap : Value) (p : Wr → Bool) (H : HP) (hen : ∀ (args : Array Value) (w : World), (callFunc f args).run Try.prog w = .ok (.enter f args) w)
    (hf : ∀ x : Wr, FunV Try.prog f #[.agg #[.string x.key, .string x.val, .bool x.dead], cap] (fun _ => True) [H] (.bool (p x)) [H]) (A : Option Addr) (c : Nat) (xs : List Wr) (hl : xs.length ≤ 140737488355328) :
    FunV Try.prog 75 #[.slice A xs.length c, fcl f cap] (fun w => Kd.C kWr w A xs.length xs) [H] (.bool (xs.any p)) [H] := by
  obtain ⟨e0, he⟩ : ∃ e0, idxFrom p xs 0 = e0 := ⟨_, rfl⟩
  have hb := idx_any p xs 0
  rw [he] at hb
  rw [← hb]
  clear hb
  have HI := Aside0.mk (idxWr_fun f cap p H hen hf A c xs e0 he hl)
  intro w S hS hR
  have HS := St.start hS
  have HR := Aside0.mk hR
  clear hS hR he hen hf
  go_enter Try.func75, Try.ntmps75
  go_wp2_with fail
  refine ((HI.out).call (F := []) HS (fun w_ _ e_ _ => HR.out w_ e_)).mono ?_
  rintro e_ w1 ⟨rfl, HS_⟩
  clear HS
  have HS : St w S w1 [H] := HS_
  clear HS_
  go_wp2_with fail
  go_ret
  exact ⟨rfl, HS⟩
set_option maxHeartbeats 4000000 in
set_option maxRecDepth 20000 in
theorem hasSp_fun (f : FuncId) (cap : Value) (p : Sp → Bool) (H : HP) (hen : ∀ (args : Array Value) (w : World), (callFunc f args).run Try.prog w = .ok (.enter f args) w)
    (hf : ∀ x : Sp, FunV Try.prog f #[.agg #[.string x.a, .string x.b], cap] (fun _ => True) [H] (.bool (p x)) [H]) (A : Option Addr) (c : Nat) (xs : List Sp) (hl : xs.length ≤ 140737488355328) :
    FunV Try.prog 82 #[.slice A xs.length c, fcl f cap] (fun w => Kd.C kSp w A xs.length xs) [H] (.bool (xs.any p)) [H] := by
  obtain ⟨e0, he⟩ : ∃ e0, idxFrom p xs 0 = e0 := ⟨_, rfl⟩
  have hb := idx_any p xs 0
  rw [he] at hb
  rw [← hb]
  clear hb
  have HI := Aside0.mk (idxSp_fun f cap p H hen hf A c xs e0 he hl)
  intro w S hS hR
  have HS := St.start hS
  have HR := Aside0.mk hR
  clear hS hR he hen hf
  go_enter Try.func82, Try.ntmps82
  go_wp2_with fail
  refine ((HI.out).call (F := []) HS (fun w_ _ e_ _ => HR.out w_ e_)).mono ?_
  rintro e_ w1 ⟨rfl, HS_⟩
  clear HS
  have HS : St w S w1 [H] := HS_
  clear HS_
  go_wp2_with fail
  go_ret
  exact ⟨rfl, HS⟩
theorem Ht_row {w0 w : World} {S0 : Nat → Prop} {F : List HP} {t g n c : Nat} {xs : List Ht} (h : St w0 S0 w (HP.row kHt t (.slice (some ⟨g, 0, none⟩) n c) xs :: F)) (i : Nat) (x : Ht) (hx : xs[i]? = some x) :
    w.cell? ⟨g, i * 3, none⟩ = some (.string x.key) ∧ w.cell? ⟨g, i * 3 + 1, none⟩ = some (.int .i64 x.ts) ∧ w.cell? ⟨g, i * 3 + 2, none⟩ = some (.string x.val) := by
  obtain ⟨hi, rfl⟩ := List.getElem?_eq_some_iff.1 hx
  have hf := fun k hk => flat_cell (enc := fun x : Ht => [.string x.key, .int .i64 x.ts, .string x.val]) kHt_open h i hi k hk
  exact ⟨hf 0 (show 0 < 3 by decide), hf 1 (show 1 < 3 by decide), hf 2 (show 2 < 3 by decide)⟩
def eqL : List Ht → List Sg → Bool
  | [], [] => true
  | h :: l, x :: r => decide (stampOf h = x) && eqL l r
  | _, _ => false
theorem eqL_iff : ∀ (l : List Ht) (r : List Sg), eqL l r = decide (l.map stampOf = r)
  | [], [] => by simp [eqL]
  | [], x :: r => by simp [eqL]
  | h :: l, [] => by simp [eqL]
  | h :: l, x :: r => by
    rw [eqL, eqL_iff l r]
    by_cases h1 : stampOf h = x <;> by_cases h2 : l.map stampOf = r <;> simp [h1, h2]
set_option maxHeartbeats 4000000 in
set_option maxRecDepth 20000 in
theorem equal_fun (u : Value) (hs : List Ht) (A : Option Addr) (c : Nat) (xs : List Sg) (b0 : Bool) (he : eqL hs xs = b0) (hl : hs.length ≤ 140737488355328) (hl2 : xs.length ≤ 140737488355328) :
    FunV Try.prog 79 #[u, .slice A xs.length c, .func (.func 80) #[] #[]] (fun w => Kd.C kSg w A xs.length xs) [HP.row kHt 51 u hs] (.bool b0) [HP.row kHt 51 u hs] := by
  intro w S hS hR
  have HS := St.start hS
  have HR := Aside0.mk (fun (w' : World) (F : List HP) (h : St w S w' F) => hR w' h.ext)
  have HE := Aside0.mk he
  clear hS hR he
  have hu51 := Try.underlying51
  have hu53 := Try.underlying53
  have hus1 := Try.underlying47
  have hus2 := Try.underlying49
  obtain ⟨B, d, rfl, hd, -⟩ := St.row_C HS
  by_cases hn : hs.length = xs.length
  · have hnI : ((hs.length : Int) == (xs.length : Int)) = true := beq_iff_eq.2 (by omega)
    have hnN : ((hs.length : Int) != (xs.length : Int)) = false := by simp [hn]
    have HNN := Aside0.mk hn
    clear hn
    go_enter Try.func79, Try.ntmps79
    go_wp2_with fail
    go_loopw [17] (fun v17 w' => ∃ k : Nat, k ≤ hs.length ∧ v17 = .int .i64 k ∧ Aside0 (eqL (hs.drop k) (xs.drop k) = b0) ∧ St w S w' [HP.row kHt 51 (.slice B hs.length d) hs]) (fun v17 _ => hs.length - (intOf v17).toNat)
    case atStart => exact ⟨0, Nat.zero_le _, rfl, HE, HS⟩
    case round =>
      clear HS HE
      obtain ⟨k, hk, rfl, HE, HS⟩ := hrel
      have hk0 : (0 : Int) ≤ (k : Int) := by omega
      by_cases hlt : k < hs.length
      · have hltI : (k : Int) < (hs.length : Int) := by omega
        have hlt2 : k < xs.length := by have := HNN.out; omega
        have hltI2 : (k : Int) < (xs.length : Int) := by omega
        have hwk : IntKind.i64.wrap ((k : Int) + 1) = ((k + 1 : Nat) : Int) := by rw [IntWalk.i64_in _ (by omega)]; omega
        have hd1 : hs.drop k = hs[k] :: hs.drop (k + 1) := List.drop_eq_getElem_cons hlt
        have hd2 : xs.drop k = xs[k] :: xs.drop (k + 1) := List.drop_eq_getElem_cons hlt2
        have hh : hs[k]? = some hs[k] := List.getElem?_eq_getElem hlt
        have hx : xs[k]? = some xs[k] := List.getElem?_eq_getElem hlt2
        obtain ⟨h, hhe⟩ : ∃ h, hs[k] = h := ⟨_, rfl⟩
        obtain ⟨x, hxe⟩ : ∃ x, xs[k] = x := ⟨_, rfl⟩
        rw [hhe] at hd1 hh
        rw [hxe] at hd2 hx
        obtain ⟨gh, ch, ev⟩ := St.row_form HS (by omega)
        simp only [Value.slice.injEq] at ev
        obtain ⟨rfl, -, rfl⟩ := ev
        have he := HE.out
        rw [hd1, hd2, eqL] at he
        have HX := same_fun h x
        obtain ⟨ad, rfl, -⟩ := Sg_at (HR.out _ _ HS) k x hx
        have HCH := Aside0.mk (fun (w' : World) (F : List HP) (hh_ : St w S w' (HP.row kHt 51 (.slice (some ⟨gh, 0, none⟩) hs.length d) hs :: F)) => Ht_row hh_ k h hh)
        have HCX := Aside0.mk (fun (w' : World) (F : List HP) (hh_ : St w S w' F) => (show w'.cell? (ad.add (k * 2)) = some (.string x.key) ∧ w'.cell? ⟨(ad.add (k * 2)).block, (ad.add (k * 2)).off + 1, none⟩ = some (.int .i64 x.ts) from by obtain ⟨ad', e, q⟩ := Sg_at (HR.out _ _ hh_) k x hx; obtain rfl := Option.some.inj e; exact q))
        clear hd1 hd2 hx hxe hh hhe
        cases hp : decide (stampOf h = x)
        · rw [hp] at he HX
          have HX := Aside0.mk HX
          have HE2 := Aside0.mk (show false = b0 from he)
          clear he hp HE
          obtain ⟨q1, q2, q3⟩ := HCH.out _ _ HS
          go_wp2_with (first
            | ((with_reducible refine gate_dst (N := 8) rfl ?_); refine ev_box ?hg (N := 8) ?hd (cs := [.string ⟨#[]⟩, .int .i64 0, .string ⟨#[]⟩]) (t := 51) HS ?hr ?_; (case hd => rfl); (case hg => rfl); (case hr => first | (go_simp; done) | (go_simp; rfl)); intro g4 w5 HS_ hg_; clear hg_; clear HS q1 q2 q3; have HS : St w S w5 [HP.obj g4 51 [.string ⟨#[]⟩, .int .i64 0, .string ⟨#[]⟩], HP.row kHt 51 (.slice (some ⟨gh, 0, none⟩) hs.length d) hs] := HS_; clear HS_)
            | ((with_reducible refine gate_ (.store 51 (.tmp 8) (.tmp 21)) rfl ?_); refine ev_store2 rfl rfl 51 (.tmp 8) (.tmp 21) rfl [.string h.key, .int .i64 h.ts, .string h.val] HS (g := g4) (j := 0) rfl rfl (seg := [.string h.key, .int .i64 h.ts, .string h.val]) rfl ?ht rfl ?hf ?he ?_; (case ht => exact szShB51); (case he => kernel_rfl); (case hf => first | (simp; done) | (simp [splice]; done)); intro w6 HS_; clear HS; have HS : St w S w6 [HP.obj g4 51 [.string h.key, .int .i64 h.ts, .string h.val], HP.row kHt 51 (.slice (some ⟨gh, 0, none⟩) hs.length d) hs] := HS_; clear HS_; obtain ⟨q7, q8⟩ := HCX.out _ _ (HS.mv 1))
            | ((with_reducible refine gate_dst (N := 9) rfl ?_); refine ev_box ?hg (N := 9) ?hd (cs := [.string ⟨#[]⟩, .int .i64 0]) (t := 53) HS ?hr ?_; (case hd => rfl); (case hg => rfl); (case hr => first | (go_simp; done) | (go_simp; rfl)); intro g9 w10 HS_ hg_; clear hg_; clear HS q7 q8; have HS : St w S w10 [HP.obj g9 53 [.string ⟨#[]⟩, .int .i64 0], HP.obj g4 51 [.string h.key, .int .i64 h.ts, .string h.val], HP.row kHt 51 (.slice (some ⟨gh, 0, none⟩) hs.length d) hs] := HS_; clear HS_)
            | ((with_reducible refine gate_ (.store 53 (.tmp 9) (.tmp 25)) rfl ?_); refine ev_store2 rfl rfl 53 (.tmp 9) (.tmp 25) rfl [.string x.key, .int .i64 x.ts] HS (g := g9) (j := 0) rfl rfl (seg := [.string x.key, .int .i64 x.ts]) rfl ?ht rfl ?hf ?he ?_; (case ht => exact szShB53); (case he => kernel_rfl); (case hf => first | (simp; done) | (simp [splice]; done)); intro w11 HS_; clear HS; have HS : St w S w11 [HP.obj g9 53 [.string x.key, .int .i64 x.ts], HP.obj g4 51 [.string h.key, .int .i64 h.ts, .string h.val], HP.row kHt 51 (.slice (some ⟨gh, 0, none⟩) hs.length d) hs] := HS_; clear HS_; have q12 := (HS.mv 1).cell 0; have q13 := (HS.mv 1).cell 1; have q14 := (HS.mv 1).cell 2; have q15 := HS.cell 0; have q16 := HS.cell 1))
          refine ((HX.out).call (F := [HP.obj g9 53 [.string x.key, .int .i64 x.ts], HP.obj g4 51 [.string h.key, .int .i64 h.ts, .string h.val], HP.row kHt 51 (.slice (some ⟨gh, 0, none⟩) hs.length d) hs]) HS (fun _ _ _ _ => trivial)).mono ?_
          rintro e_ w17 ⟨rfl, HS_⟩
          clear HS q12 q13 q14 q15 q16
          have HS : St w S w17 [HP.obj g9 53 [.string x.key, .int .i64 x.ts], HP.obj g4 51 [.string h.key, .int .i64 h.ts, .string h.val], HP.row kHt 51 (.slice (some ⟨gh, 0, none⟩) hs.length d) hs] := HS_
          clear HS_
          go_wp2_with fail
          go_ret
          obtain rfl := HE2.out
          exact ⟨rfl, ((HS.out 0).out 0)⟩
        · rw [hp] at he HX
          have HX := Aside0.mk HX
          have HE2 := Aside0.mk (show eqL (hs.drop (k + 1)) (xs.drop (k + 1)) = b0 from by simpa using he)
          clear he hp HE
          obtain ⟨q18, q19, q20⟩ := HCH.out _ _ HS
          go_wp2_with (first
            | ((with_reducible refine gate_dst (N := 8) rfl ?_); refine ev_box ?hg (N := 8) ?hd (cs := [.string ⟨#[]⟩, .int .i64 0, .string ⟨#[]⟩]) (t := 51) HS ?hr ?_; (case hd => rfl); (case hg => rfl); (case hr => first | (go_simp; done) | (go_simp; rfl)); intro g21 w22 HS_ hg_; clear hg_; clear HS q18 q19 q20; have HS : St w S w22 [HP.obj g21 51 [.string ⟨#[]⟩, .int .i64 0, .string ⟨#[]⟩], HP.row kHt 51 (.slice (some ⟨gh, 0, none⟩) hs.length d) hs] := HS_; clear HS_)
            | ((with_reducible refine gate_ (.store 51 (.tmp 8) (.tmp 21)) rfl ?_); refine ev_store2 rfl rfl 51 (.tmp 8) (.tmp 21) rfl [.string h.key, .int .i64 h.ts, .string h.val] HS (g := g21) (j := 0) rfl rfl (seg := [.string h.key, .int .i64 h.ts, .string h.val]) rfl ?ht rfl ?hf ?he ?_; (case ht => exact szShB51); (case he => kernel_rfl); (case hf => first | (simp; done) | (simp [splice]; done)); intro w23 HS_; clear HS; have HS : St w S w23 [HP.obj g21 51 [.string h.key, .int .i64 h.ts, .string h.val], HP.row kHt 51 (.slice (some ⟨gh, 0, none⟩) hs.length d) hs] := HS_; clear HS_; obtain ⟨q24, q25⟩ := HCX.out _ _ (HS.mv 1))
            | ((with_reducible refine gate_dst (N := 9) rfl ?_); refine ev_box ?hg (N := 9) ?hd (cs := [.string ⟨#[]⟩, .int .i64 0]) (t := 53) HS ?hr ?_; (case hd => rfl); (case hg => rfl); (case hr => first | (go_simp; done) | (go_simp; rfl)); intro g26 w27 HS_ hg_; clear hg_; clear HS q24 q25; have HS : St w S w27 [HP.obj g26 53 [.string ⟨#[]⟩, .int .i64 0], HP.obj g21 51 [.string h.key, .int .i64 h.ts, .string h.val], HP.row kHt 51 (.slice (some ⟨gh, 0, none⟩) hs.length d) hs] := HS_; clear HS_)
            | ((with_reducible refine gate_ (.store 53 (.tmp 9) (.tmp 25)) rfl ?_); refine ev_store2 rfl rfl 53 (.tmp 9) (.tmp 25) rfl [.string x.key, .int .i64 x.ts] HS (g := g26) (j := 0) rfl rfl (seg := [.string x.key, .int .i64 x.ts]) rfl ?ht rfl ?hf ?he ?_; (case ht => exact szShB53); (case he => kernel_rfl); (case hf => first | (simp; done) | (simp [splice]; done)); intro w28 HS_; clear HS; have HS : St w S w28 [HP.obj g26 53 [.string x.key, .int .i64 x.ts], HP.obj g21 51 [.string h.key, .int .i64 h.ts, .string h.val], HP.row kHt 51 (.slice (some ⟨gh, 0, none⟩) hs.length d) hs] := HS_; clear HS_; have q29 := (HS.mv 1).cell 0; have q30 := (HS.mv 1).cell 1; have q31 := (HS.mv 1).cell 2; have q32 := HS.cell 0; have q33 := HS.cell 1))
          refine ((HX.out).call (F := [HP.obj g26 53 [.string x.key, .int .i64 x.ts], HP.obj g21 51 [.string h.key, .int .i64 h.ts, .string h.val], HP.row kHt 51 (.slice (some ⟨gh, 0, none⟩) hs.length d) hs]) HS (fun _ _ _ _ => trivial)).mono ?_
          rintro e_ w34 ⟨rfl, HS_⟩
          clear HS q29 q30 q31 q32 q33
          have HS : St w S w34 [HP.obj g26 53 [.string x.key, .int .i64 x.ts], HP.obj g21 51 [.string h.key, .int .i64 h.ts, .string h.val], HP.row kHt 51 (.slice (some ⟨gh, 0, none⟩) hs.length d) hs] := HS_
          clear HS_
          go_wp2_with fail
          go_roundw
          case rel => exact ⟨k + 1, by omega, by go_num, HE2, ((HS.out 0).out 0)⟩
          case measure => simp [intOf]; omega
      · have hltI : ¬ (k : Int) < (hs.length : Int) := by omega
        have HE2 := Aside0.mk (show true = b0 by have he := HE.out; rw [List.drop_eq_nil_of_le (by omega), List.drop_eq_nil_of_le (by have := HNN.out; omega)] at he; exact he)
        clear HE
        go_wp2_with fail
        go_ret
        obtain rfl := HE2.out
        exact ⟨rfl, HS⟩
  · have hnI : ((hs.length : Int) == (xs.length : Int)) = false := beq_eq_false_iff_ne.2 (fun e => hn (by omega))
    have hnN : ((hs.length : Int) != (xs.length : Int)) = true := by simp only [bne, hnI, Bool.not_false]
    have HE2 := Aside0.mk (show false = b0 by
      rw [← HE.out, eqL_iff]
      exact (decide_eq_false (fun e => hn (by rw [← e, List.length_map]))).symm)
    clear HE
    go_enter Try.func79, Try.ntmps79
    go_wp2_with fail
    go_ret
    obtain rfl := HE2.out
    exact ⟨rfl, HS⟩
end Go.Proofs.Ytphenpncdhgdhaa.Shd
