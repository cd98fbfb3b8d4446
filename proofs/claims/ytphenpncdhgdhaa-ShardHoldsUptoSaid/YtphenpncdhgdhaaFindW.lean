/- strings.Compare, slices.BinarySearchFunc over a store's rows, (*Store).find: walked. -/
import Derived.Test.YtphenpncdhgdhaaProg
import Derived.Test.YtphenpncdhgdhaaSlIns
import Derived.Test.YtphenpncdhgdhaaVerP
import Derived.Lib.Bytealg
import Derived.Lib.Walk
import Derived.Laws.Externs
import Derived.Laws.EntriesVeiled
import Derived.Deep.DrawnRows
import Derived.KernelRfl
import Derived.IntWalk
namespace Go.Proofs.Ytphenpncdhgdhaa.Ver
open Go.RowKit Go.Proofs.YtphenpncdhgdhaaW.PrintWords Go.Proofs.YtphenpncdhgdhaaW.PrintLast Go.Proofs.YtphenpncdhgdhaaW.PrintMore Go.Proofs.Ytphenpncdhgdhaa.Sl Go.Proofs.Ytphenpncdhgdhaa.Str
set_option linter.unusedVariables false
set_option linter.unusedSimpArgs false
theorem cmp_bytes : ∀ a b : List UInt8, Lib.compareBytes a b = cmpL a b
  | [], [] => rfl
  | [], _ :: _ => rfl
  | _ :: _, [] => rfl
  | x :: a, y :: b => by simp only [Lib.compareBytes, cmpL, cmp_bytes a b]
theorem data_toList (a : ByteArray) : a.data.toList = a.toList := (toList_eq a).symm
set_option maxHeartbeats 1000000 in
set_option maxRecDepth 100000 in
theorem cmpString (a b : ByteArray) (w : World) : Calls Try.prog 95 #[.string a, .string b] w fun e w' => e = .returned (.int .i64 (cmpS a b)) ∧ w' = w := by
  go_enter Try.func95, Try.ntmps95
  go_wp2
  rw [run_callFunc_extern Try.func97 (by kernel_rfl) (by kernel_rfl) (by kernel_rfl) (e := Extern.BytealgCompare.compare) (by kernel_rfl), Lib.run_compareString]
  simp only [Result.andThen]
  rw [Oper.upon_value]
  go_wp2
  go_ret
  exact ⟨by rw [cmp_bytes, data_toList, data_toList]; rfl, rfl⟩
set_option maxHeartbeats 1000000 in
theorem compare_fun (a b : ByteArray) (w : World) : Calls Try.prog 88 #[.string a, .string b] w fun e w' => e = .returned (.int .i64 (cmpS a b)) ∧ w' = w := by
  go_enter Try.func88, Try.ntmps88
  go_wp2_with (go_at_call 95; refine (cmpString _ _ _).mono ?_; rintro e w' ⟨rfl, rfl⟩)
  go_ret
  exact ⟨rfl, rfl⟩
set_option maxHeartbeats 1000000 in
theorem less_fun (k key : ByteArray) (v : Value) : FunV Try.prog 87 #[.agg #[.string k, v], .string key] (fun _ => True) [] (.int .i64 (cmpS k key)) [] := by
  intro w S hS hR
  have HS := St.start hS
  clear hS hR
  have hu53 := Try.underlying86
  go_enter Try.func87, Try.ntmps87
  go_wp2_with (first
    | ((with_reducible refine gate_dst (N := 2) rfl ?_); refine ev_box ?hg (N := 2) ?hd (cs := [.string k, v]) (t := 86) HS ?hr ?_; (case hd => rfl); (case hg => rfl); (case hr => first | (go_simp; done) | (go_simp; rfl)); intro gb w1 HS_ hg_; clear HS; have HS := HS_; clear HS_; have q := HS.cell 0)
    | (go_at_call 88; refine (compare_fun _ _ _).mono ?_; rintro e w' ⟨rfl, rfl⟩))
  go_ret
  exact ⟨rfl, HS.out 0⟩
theorem lb_eq (k : ByteArray) : ∀ (rows : List Rw) (i : Nat) (hi : i ≤ rows.length) (h1 : ∀ j (hj : j < i), cmpS (rows[j]'(by omega)).key k < 0) (h2 : ∀ h : i < rows.length, ¬ cmpS rows[i].key k < 0), lb rows k = i
  | [], i, hi, _, _ => by
    have : i = 0 := by simpa using hi
    subst this
    rfl
  | r :: rows, 0, _, _, h2 => by
    have h := h2 (by simp)
    simp only [List.getElem_cons_zero] at h
    unfold lb
    rw [List.takeWhile_cons, if_neg (by simpa using h)]
    rfl
  | r :: rows, i + 1, hi, h1, h2 => by
    have h := h1 0 (by omega)
    simp only [List.getElem_cons_zero] at h
    unfold lb
    rw [List.takeWhile_cons, if_pos (by simpa using h), List.length_cons]
    have ih := lb_eq k rows i (by simpa using hi) (fun j hj => by have := h1 (j + 1) (by omega); simpa using this) (fun hlt => by have := h2 (by simpa using hlt); simpa using this)
    unfold lb at ih
    rw [ih]
theorem rises_before {rows : List Rw} (hr : Rises rows) {key : ByteArray} (m : Nat) (hm : m < rows.length) (h : cmpS rows[m].key key < 0) : ∀ j (hj : j ≤ m) (hl : j < rows.length), cmpS rows[j].key key < 0 := fun j hj hl => by
  by_cases e : j = m
  · subst e; exact h
  · exact lt_trans (List.pairwise_iff_getElem.1 hr j m hl hm (by omega)) h
theorem rises_after {rows : List Rw} (hr : Rises rows) {key : ByteArray} (m : Nat) (hm : m < rows.length) (h : ¬ cmpS rows[m].key key < 0) : ∀ j (hj : m ≤ j) (hl : j < rows.length), 0 ≤ cmpS rows[j].key key := fun j hj hl => by
  refine Int.not_lt.1 fun hc => ?_
  by_cases e : j = m
  · subst e; exact h hc
  · exact h (lt_trans (List.pairwise_iff_getElem.1 hr m j hm hl (by omega)) hc)
/-- The rows' cells: the keys' cells among them. -/
def Keyed (rows : List Rw) (xs : List (List Value)) : Prop := xs.length = rows.length ∧ ∀ j (h : j < rows.length), ∃ v, xs[j]? = some [.string rows[j].key, v]
abbrev fv (f : FuncId) : Value := .func (.func f) #[] #[]
attribute [local go_sem ↓] Go.wp_at_zero Go.wp_at_succ
set_option maxHeartbeats 2000000 in
set_option maxRecDepth 10000 in
theorem bsearch_fun (u : Value) (rows : List Rw) (hr : Rises rows) (xs : List (List Value)) (hk : Keyed rows xs) (key : ByteArray) (hl : rows.length ≤ 140737488355328) :
    FunV Try.prog 86 #[u, .string key, fv 87] (fun _ => True) [HP.row (raw 2) 86 u xs]
      (.tuple #[.int .i64 (lb rows key), .bool (there rows key)]) [HP.row (raw 2) 86 u xs] := by
  intro w S hS hR
  have HS := St.start hS
  clear hS hR
  have hu48 := Try.underlying74
  have hu53 := Try.underlying86
  obtain ⟨hxl, hxk⟩ := hk
  have hlen : ∃ A c, u = .slice A rows.length c := by
    rcases raw_form HS with ⟨rfl, rfl⟩ | ⟨g, c, rfl, hc⟩
    · have : rows.length = 0 := by simpa using hxl.symm
      exact ⟨none, 0, by rw [this]⟩
    · exact ⟨_, _, by rw [hxl]⟩
  obtain ⟨A, c, rfl⟩ := hlen
  have HXK := Aside0.mk hxk
  have HRI := Aside0.mk hr
  have HXL := Aside0.mk hxl
  clear hxk hr hxl
  go_enter Try.func86, Try.ntmps86
  go_wp2
  go_loopw [9, 10] (fun v9 v10 w' => ∃ lo hi : Nat, v9 = .int .i64 lo ∧ v10 = .int .i64 hi ∧ lo ≤ hi ∧ hi ≤ rows.length ∧ Aside0 (∀ j (hj : j < lo) (h : j < rows.length), cmpS rows[j].key key < 0) ∧ Aside0 (∀ j (hj : hi ≤ j) (h : j < rows.length), 0 ≤ cmpS rows[j].key key) ∧
    St w S w' [HP.row (raw 2) 86 (.slice A rows.length c) xs]) (fun v9 v10 _ => (intOf v10).toNat - (intOf v9).toNat)
  case atStart => exact ⟨0, rows.length, rfl, rfl, by omega, by omega, ⟨fun j hj => by omega⟩, ⟨fun j hj h => by omega⟩, HS⟩
  case round =>
    clear HS
    obtain ⟨lo, hi, rfl, rfl, hlh, hhn, H1, H2, HS⟩ := hrel
    by_cases hlt : lo < hi
    · have hltI : (lo : Int) < (hi : Int) := by omega
      have hltd : decide ((lo : Int) < (hi : Int)) = true := decide_eq_true hltI
      have hw1 : IntKind.i64.wrap ((lo : Int) + (hi : Int)) = (lo : Int) + (hi : Int) := IntWalk.i64_in _ (by omega)
      have hw2 : IntKind.u64.wrap ((lo : Int) + (hi : Int)) = (lo : Int) + (hi : Int) := by rw [IntKind.wrap_u64]; omega
      obtain ⟨m, hm⟩ : ∃ m, (lo + hi) / 2 = m := ⟨_, rfl⟩
      have hm1 : lo ≤ m := by omega
      have hm2 : m < hi := by omega
      have hmn : m < rows.length := by omega
      have hmI : ((lo : Int) + (hi : Int)) / 2 = (m : Int) := by omega
      have hml : (m : Int) < (rows.length : Int) := by omega
      have hm0 : (0 : Int) ≤ (m : Int) := by omega
      obtain ⟨g, c_, ev⟩ := St.row_form HS (by rw [HXL.out]; omega)
      simp only [Value.slice.injEq] at ev
      obtain ⟨rfl, -, rfl⟩ := ev
      obtain ⟨v, hv⟩ := HXK.out m hmn
      obtain ⟨q0, -⟩ := St.raw_cell HS m 0 hv (by omega)
      obtain ⟨q1, -⟩ := St.raw_cell HS m 1 hv (by omega)
      have q0 : wr.cell? ⟨g, m * 2, none⟩ = some (.string rows[m].key) := q0
      have q1 : wr.cell? ⟨g, m * 2 + 1, none⟩ = some v := q1
      obtain ⟨km, hkm⟩ : ∃ km, rows[m].key = km := ⟨_, rfl⟩
      rw [hkm] at q0
      have HKM := Aside0.mk hkm
      clear hv hkm hm
      go_wp2_with fail
      refine ((less_fun km key v).call (F := [HP.row (raw 2) 86 (.slice (some ⟨g, 0, none⟩) rows.length c) xs]) HS (fun _ _ _ _ => trivial)).mono ?_
      rintro e_ w1 ⟨rfl, HS_⟩
      clear HS q0 q1
      have HS : St w S w1 [HP.row (raw 2) 86 (.slice (some ⟨g, 0, none⟩) rows.length c) xs] := HS_
      clear HS_
      have hw3 : IntKind.i64.wrap ((m : Int) + 1) = (m : Int) + 1 := IntWalk.i64_in _ (by omega)
      by_cases hc : cmpS km key < 0
      · have hcd : decide (cmpS km key < 0) = true := decide_eq_true hc
        have hbe := Aside0.mk (rises_before HRI.out m hmn (by rw [HKM.out]; exact hc))
        generalize cmpS km key = z at hc hcd
        go_wp2
        go_roundw
        case rel => exact ⟨m + 1, hi, by go_num, rfl, by omega, hhn, ⟨fun j hj h => hbe.out j (by omega) h⟩, H2, HS⟩
        case measure => simp [intOf]; omega
      · have hcd : decide (cmpS km key < 0) = false := decide_eq_false hc
        have haf := Aside0.mk (rises_after HRI.out m hmn (by rw [HKM.out]; exact hc))
        generalize cmpS km key = z at hc hcd
        go_wp2
        go_roundw
        case rel => exact ⟨lo, m, rfl, rfl, hm1, by omega, H1, haf, HS⟩
        case measure => simp [intOf]; omega
    · obtain rfl : lo = hi := by omega
      have hltd : decide ((lo : Int) < (lo : Int)) = false := decide_eq_false (by omega)
      have hlb : lb rows key = lo := lb_eq key rows lo hhn (fun j hj => H1.out j hj (by omega)) (fun h => by have := H2.out lo (by omega) h; omega)
      by_cases hn : lo < rows.length
      · have hml : (lo : Int) < (rows.length : Int) := by omega
        have hmd : decide ((lo : Int) < (rows.length : Int)) = true := decide_eq_true hml
        have hth : there rows key = decide (cmpS rows[lo].key key = 0) := by unfold there; rw [hlb, List.getElem?_eq_getElem hn]
        obtain ⟨g, c_, ev⟩ := St.row_form HS (by rw [HXL.out]; omega)
        simp only [Value.slice.injEq] at ev
        obtain ⟨rfl, -, rfl⟩ := ev
        obtain ⟨v, hv⟩ := HXK.out lo hn
        obtain ⟨q0, -⟩ := St.raw_cell HS lo 0 hv (by omega)
        obtain ⟨q1, -⟩ := St.raw_cell HS lo 1 hv (by omega)
        have q0 : wr.cell? ⟨g, lo * 2, none⟩ = some (.string rows[lo].key) := q0
        have q1 : wr.cell? ⟨g, lo * 2 + 1, none⟩ = some v := q1
        obtain ⟨km, hkm⟩ : ∃ km, rows[lo].key = km := ⟨_, rfl⟩
        rw [hkm] at q0 hth
        have HTH := Aside0.mk hth
        have HLB := Aside0.mk hlb
        clear hv hkm hth hlb
        go_wp2_with fail
        refine ((less_fun km key v).call (F := [HP.row (raw 2) 86 (.slice (some ⟨g, 0, none⟩) rows.length c) xs]) HS (fun _ _ _ _ => trivial)).mono ?_
        rintro e_ w1 ⟨rfl, HS_⟩
        clear HS q0 q1
        have HS : St w S w1 [HP.row (raw 2) 86 (.slice (some ⟨g, 0, none⟩) rows.length c) xs] := HS_
        clear HS_
        by_cases hc : cmpS km key = 0
        · have hcd : (cmpS km key == 0) = true := beq_iff_eq.2 hc
          have hd : there rows key = true := by rw [HTH.out, decide_eq_true hc]
          have HD := Aside0.mk hd
          clear hd
          generalize cmpS km key = z at hc hcd HTH
          go_wp2
          go_ret2
          exact ⟨by first | (rw [HD.out, HLB.out]; done) | (rw [HD.out, HLB.out]; rfl), HS⟩
        · have hcd : (cmpS km key == 0) = false := beq_eq_false_iff_ne.2 hc
          have hd : there rows key = false := by rw [HTH.out, decide_eq_false hc]
          have HD := Aside0.mk hd
          clear hd
          generalize cmpS km key = z at hc hcd HTH
          go_wp2
          go_ret2
          exact ⟨by first | (rw [HD.out, HLB.out]; done) | (rw [HD.out, HLB.out]; rfl), HS⟩
      · have hmd : decide ((lo : Int) < (rows.length : Int)) = false := decide_eq_false (by omega)
        have hth : there rows key = false := by unfold there; rw [hlb, List.getElem?_eq_none (by omega)]
        have HD := Aside0.mk hth
        have HLB := Aside0.mk hlb
        clear hth hlb
        go_wp2
        go_ret2
        exact ⟨by first | (rw [HD.out, HLB.out]; done) | (rw [HD.out, HLB.out]; rfl), HS⟩
/-- A store: its rows, each with its versions. -/
def vnE (v : Vn) : List Value := [.int .i64 v.ts, .string v.val, .bool v.dead]
def kVn : Kd Vn := Kd.iso (Kd.pair (Kd.int .i64) (Kd.pair Kd.string Kd.bool)) (fun x : Vn => (x.ts, x.val, x.dead))
def rowsC (rows : List Rw) (us : List Value) : List (List Value) := List.zipWith (fun r u => [.string r.key, u]) rows us
def inner (rows : List Rw) (us : List Value) : List HP := List.zipWith (fun r u => HP.row kVn 131 u r.vs) rows us
def storeH (g : Nat) (u : Value) (rows : List Rw) (us : List Value) : HP := Sl.all [HP.obj g 124 [u], HP.row (raw 2) 86 u (rowsC rows us), Sl.all (inner rows us)]
theorem keyed {rows : List Rw} {us : List Value} (h : us.length = rows.length) : Keyed rows (rowsC rows us) := by
  refine ⟨by simp [rowsC, h], fun j hj => ?_⟩
  have hu : j < us.length := by omega
  exact ⟨us[j], by simp [rowsC, List.getElem?_zipWith, List.getElem?_eq_getElem hj, List.getElem?_eq_getElem hu]⟩
set_option maxHeartbeats 2000000 in
theorem find_fun (g : Nat) (u : Value) (rows : List Rw) (us : List Value) (hr : Rises rows) (hu : us.length = rows.length) (hl : rows.length ≤ 140737488355328) (key : ByteArray) :
    FunV Try.prog 60 #[.pointer (some ⟨g, 0, none⟩), .string key] (fun _ => True) [HP.obj g 124 [u], HP.row (raw 2) 86 u (rowsC rows us)]
      (.tuple #[.int .i64 (lb rows key), .bool (there rows key)]) [HP.obj g 124 [u], HP.row (raw 2) 86 u (rowsC rows us)] := by
  intro w S hS hR
  have HS := St.start hS
  clear hS hR
  have hu62 := Try.underlying124
  have q0 : w.cell? ⟨g, 0, none⟩ = some u := HS.cell 0
  go_enter Try.func60, Try.ntmps60
  go_wp2_with fail
  refine ((bsearch_fun u rows hr (rowsC rows us) (keyed hu) key hl).call (F := [HP.obj g 124 [u]]) (HS.mv 1) (fun _ _ _ _ => trivial)).mono ?_
  rintro e_ w1 ⟨rfl, HS_⟩
  clear HS q0
  go_wp2
  go_ret2
  exact ⟨rfl, HS_.mv 1⟩
end Go.Proofs.Ytphenpncdhgdhaa.Ver
