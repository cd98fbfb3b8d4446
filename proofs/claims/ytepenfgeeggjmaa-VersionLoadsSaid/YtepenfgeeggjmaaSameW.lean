/- The document's comparison of rows: of the same rows it answers true. -/
import Derived.Test.YtepenfgeeggjmaaLogT
import Derived.Test.YtepenfgeeggjmaaPRefx4
namespace Go.Proofs.Ytepenfgeeggjmaa.Ver
open Go.RowKit Go.Proofs.YtepenfgeeggjmaaW.PrintWords Go.Proofs.YtepenfgeeggjmaaW.PrintLast Go.Proofs.YtepenfgeeggjmaaW.PrintMore Go.Proofs.Ytepenfgeeggjmaa.Sl Go.Proofs.Ytepenfgeeggjmaa.Str Go.Proofs.Ytepenfgeeggjmaa.Row Go.Proofs.Ytepenfgeeggjmaa.PRef
set_option linter.unusedVariables false
set_option linter.unusedSimpArgs false
theorem C_map {α β : Type} {d : Kd α} {d' : Kd β} {g : α → β} (hs : d'.sz = d.sz) (hK : ∀ w x cs, d.K w x cs → d'.K w (g x) cs) {w : World} {A : Option Addr} {n : Nat} {xs : List α} (h : Kd.C d w A n xs) : Kd.C d' w A n (xs.map g) := by
  obtain ⟨h1, h2, h3⟩ := h
  refine ⟨by rw [List.length_map]; exact h1, h2, fun hp => ?_⟩
  obtain ⟨ad, e, hc⟩ := h3 hp
  refine ⟨ad, e, fun i x hx => ?_⟩
  rw [List.getElem?_map] at hx
  obtain ⟨y, hy, rfl⟩ := Option.map_eq_some_iff.1 hx
  obtain ⟨cs, hl, hk, hcell⟩ := hc i y hy
  exact ⟨cs, by rw [hs]; exact hl, hK _ _ _ hk, by rw [hs]; exact hcell⟩
def toVn (x : Vn) : S29 := ⟨x.ts, x.val, x.dead⟩
def toRw (x : Rw) : S53 := ⟨x.key, x.vs.map toVn⟩
theorem kRw_to (w : World) (x : Rw) (cs : List Value) (h : kRw.K w x cs) : k53.K w (toRw x) cs := by
  obtain ⟨A1, c1, rfl, h1, h2⟩ := kRw_open h
  have hln : (toRw x).f1.length = x.vs.length := List.length_map _
  have := k53_mk w (toRw x) (A1 := A1) (c1 := c1) (by rw [hln]; exact h1) (by rw [hln]; exact C_iso (f' := fun x : S29 => (x.f0, x.f1, x.f2)) (g := toVn) (fun _ => rfl) h2)
  rw [hln] at this
  exact this
section
variable (l : List S53)
theorem same_l1 (hl : l.length ≤ 1000000) (i : Nat) (hi : i < l.length) (hv : (rd_T53 l (i : Int)).f1.length ≤ 1000000) (hn : ∃ k, lintelref12_SameRows.l0 k l l ((i + 1 : Nat) : Int) = some true) : ∀ (d q : Nat), (rd_T53 l (i : Int)).f1.length - q = d → q ≤ (rd_T53 l (i : Int)).f1.length → ∃ k, lintelref12_SameRows.l1 k l l (i : Int) (q : Int) = some true := by
  intro d
  induction d with
  | zero =>
    intro q hd hq
    obtain ⟨k, hk⟩ := hn
    refine ⟨k + 1, ?_⟩
    simp only [lintelref12_SameRows.l1]
    rw [if_pos (by omega), if_pos (by omega), if_neg (by omega), show wrap64 ((i : Int) + 1) = ((i + 1 : Nat) : Int) by unfold wrap64; omega]
    exact hk
  | succ d ih =>
    intro q hd hq
    obtain ⟨k, hk⟩ := ih (q + 1) (by omega) (by omega)
    refine ⟨k + 1, ?_⟩
    simp only [lintelref12_SameRows.l1]
    rw [if_pos (by omega), if_pos (by omega), if_pos (by omega), if_pos (by omega), if_pos (by omega), if_pos (by omega), if_neg (by simp), show wrap64 ((q : Int) + 1) = ((q + 1 : Nat) : Int) by unfold wrap64; omega]
    exact hk
theorem same_l0 (hl : l.length ≤ 1000000) (hv : ∀ i : Nat, (rd_T53 l (i : Int)).f1.length ≤ 1000000) : ∀ (d i : Nat), l.length - i = d → i ≤ l.length → ∃ k, lintelref12_SameRows.l0 k l l (i : Int) = some true := by
  intro d
  induction d with
  | zero =>
    intro i hd hi
    refine ⟨1, ?_⟩
    simp only [lintelref12_SameRows.l0]
    rw [if_neg (by omega)]
  | succ d ih =>
    intro i hd hi
    obtain ⟨k, hk⟩ := same_l1 l hl i (by omega) (hv i) (ih (i + 1) (by omega) (by omega)) _ 0 rfl (by omega)
    refine ⟨k + 2, ?_⟩
    simp only [lintelref12_SameRows.l0]
    rw [if_pos (by omega), if_pos (by omega), if_pos (by omega), if_pos trivial]
    simp only [lintelref12_SameRows.j1]
    rw [if_neg (by simp)]
    exact hk
theorem same_f (hl : l.length ≤ 1000000) (hv : ∀ i : Nat, (rd_T53 l (i : Int)).f1.length ≤ 1000000) : ∃ k, lintelref12_SameRows.f k l l = some true := by
  obtain ⟨k, hk⟩ := same_l0 l hl hv _ 0 rfl (by omega)
  refine ⟨k, ?_⟩
  unfold lintelref12_SameRows.f
  rw [if_pos rfl]
  exact hk
end
/-- Of the same rows, read wherever they lie. -/
theorem sameRows_calls (rows : List Rw) (hl : rows.length ≤ 1000000) (hv : ∀ r ∈ rows, r.vs.length ≤ 1000000) {w : World} {A0 A1 : Option Addr} {c0 c1 : Nat} (h0 : Kd.C kRw w A0 rows.length rows) (k0 : rows.length ≤ c0) (h1 : Kd.C kRw w A1 rows.length rows) (k1 : rows.length ≤ c1) :
    Calls Try.prog 19 #[.slice A0 rows.length c0, .slice A1 rows.length c1] w fun e w' => e = .returned (.bool true) ∧ Drawn0 w w' := by
  have hln : (rows.map toRw).length = rows.length := List.length_map _
  obtain ⟨k, hk⟩ := same_f (rows.map toRw) (by rw [hln]; exact hl) (fun i => by
    show ((rows.map toRw).getD (i : Int).toNat z53).f1.length ≤ 1000000
    rw [Int.toNat_natCast]
    by_cases hi : i < rows.length
    · rw [List.getD_eq_getElem?_getD, List.getElem?_map, List.getElem?_eq_getElem hi]
      show (rows[i].vs.map toVn).length ≤ 1000000
      rw [List.length_map]
      exact hv _ (List.getElem_mem hi)
    · rw [List.getD_eq_getElem?_getD, List.getElem?_map, List.getElem?_eq_none (by omega)]
      exact Nat.zero_le _)
  have e0 := C_map (d := kRw) (d' := k53) (g := toRw) rfl kRw_to h0
  have e1 := C_map (d := kRw) (d' := k53) (g := toRw) rfl kRw_to h1
  have := lintelref12_SameRows.calls k A0 c0 (rows.map toRw) A1 c1 (rows.map toRw) true w (by rw [hln]; exact e0) (by rw [hln]; exact k0) (by rw [hln]; exact e1) (by rw [hln]; exact k1) hk
  rw [hln] at this
  exact this
/-- The program's rows, read. -/
theorem rows_C {w0 w : World} {S0 : Nat → Prop} {F : List HP} {v : Value} {rows : List Rw} {ns : List Value} (h : St w0 S0 w (HP.row (raw 2) 53 v (rowsC rows ns) :: Sl.all (inner rows ns) :: F)) (hn : ns.length = rows.length) :
    ∃ A c, v = .slice A rows.length c ∧ rows.length ≤ c ∧ Kd.C kRw w A rows.length rows := by
  obtain ⟨A, c, hv, hc, hC⟩ := St.row_C h
  have hxl := rowsC_length hn
  rw [hxl] at hv hc hC
  refine ⟨A, c, hv, hc, hC.1 ▸ hxl, hC.2.1, fun hp => ?_⟩
  obtain ⟨ad, e, hcell⟩ := hC.2.2 hp
  refine ⟨ad, e, fun i x hx => ?_⟩
  obtain ⟨hi, rfl⟩ := List.getElem?_eq_some_iff.1 hx
  obtain ⟨cs, hl, hK, hcl⟩ := hcell i _ (rows_cell hn i hi)
  have HI := st_pick (h.mv 1) i (inner_get hn i hi)
  obtain ⟨A1, c1, hv1, hc1, hC1⟩ := St.row_C HI
  have hcs : cs = [.string rows[i].key, ns[i]'(by omega)] := hK.1
  rw [hv1] at hcs
  subst hcs
  exact ⟨_, hl, kRw_mk w rows[i] hc1 hC1, hcl⟩
end Go.Proofs.Ytepenfgeeggjmaa.Ver
