/- Commands as they are handed over: kinds, openings, what is read of a script. -/
import Derived.Test.YtphenpncdhgdhaaShQ
import Derived.Test.YtphenpncdhgdhaaShJ
import Derived.Test.YtphenpncdhgdhaaRowU
namespace Go.Proofs.Ytphenpncdhgdhaa.Shd
open Go.RowKit Go.Proofs.YtphenpncdhgdhaaW.PrintWords Go.Proofs.YtphenpncdhgdhaaW.PrintLast Go.Proofs.YtphenpncdhgdhaaW.PrintMore Go.Proofs.Ytphenpncdhgdhaa.Sl Go.Proofs.Ytphenpncdhgdhaa.Str Go.Proofs.Ytphenpncdhgdhaa.Ver Go.Proofs.Ytphenpncdhgdhaa.Row
set_option linter.unusedVariables false
set_option linter.unusedSimpArgs false
/-- A step of a script, and where its lists lie. -/
structure OpS where
  at_ : Int
  c : Cm
  e : Ec
  A : Option Addr
  ca : Nat
  rps : List Rp
  B : Option Addr
  cb : Nat
abbrev cOp (x : OpS) : List Value := [.int .i64 x.at_, .int .i64 x.c.kind, x.e.b1, x.e.b2, x.e.b3, .int .i64 x.c.t.a, .int .i64 x.c.t.b, .int .i64 x.c.t.c, .int .i64 x.c.home, .slice x.A x.rps.length x.ca, .slice x.B x.c.wrs.length x.cb, .int .i64 x.c.mn, .int .i64 x.c.til, .int .i64 x.c.ts, x.e.d1, x.e.d2, x.e.d3, x.e.d4, x.e.d5, x.e.d6, x.e.d7, x.e.d8, x.e.d9, x.e.d10, x.e.d11, x.e.d12, x.e.d13, x.e.d14, x.e.d15, x.e.d16, x.e.d17]
def kOpS : Kd OpS := Kd.iso (raw 31) cOp
theorem kOpS_open {w : World} {x : OpS} {cs : List Value} (h : kOpS.K w x cs) : cs = cOp x := h.1
def ScrAt (A : Option Addr) (os : List OpS) (w : World) : Prop := Kd.C kOpS w A os.length os ∧ ∀ o ∈ os, CmAt o.A o.rps o.B o.c.wrs w
def kRdD : Kd Rd := Kd.iso (Kd.pair kSp (Kd.slice 53 kSg)) (fun r => (r.sp, r.seen))
def kVlT : Kd (Int × Int × ByteArray) := Kd.pair (Kd.int .i64) (Kd.pair (Kd.int .i64) Kd.string)
def kClT : Kd (Int × ByteArray × Int × Int × (Int × Int × ByteArray)) := Kd.pair (Kd.int .i64) (Kd.pair Kd.string (Kd.pair (Kd.int .i64) (Kd.pair (Kd.int .i64) kVlT)))
abbrev DlT : Type := Int × ByteArray × ByteArray × ByteArray × ByteArray × Bool × Int × (Int × Int × ByteArray) × List (Int × ByteArray × Int × Int × (Int × Int × ByteArray))
def kDlT : Kd DlT := Kd.pair (Kd.int .i64) (Kd.pair Kd.string (Kd.pair Kd.string (Kd.pair Kd.string (Kd.pair Kd.string (Kd.pair Kd.bool (Kd.pair (Kd.int .i64) (Kd.pair kVlT (Kd.slice 185 kClT))))))))
abbrev CmT : Type := Int × Td × Td × Int × List Rd × List Wr × Int × Int × Int × Int × Int × DlT × Int × Int × ByteArray × Int
def kCmT : Kd CmT := Kd.pair (Kd.int .i64) (Kd.pair kTd (Kd.pair kTd (Kd.pair (Kd.int .i64) (Kd.pair (Kd.slice 55 kRdD) (Kd.pair (Kd.slice 64 kWr) (Kd.pair (Kd.int .i64) (Kd.pair (Kd.int .i64) (Kd.pair (Kd.int .i64) (Kd.pair (Kd.int .i64) (Kd.pair (Kd.int .i64) (Kd.pair kDlT (Kd.pair (Kd.int .i64) (Kd.pair (Kd.int .i64) (Kd.pair Kd.string (Kd.int .i64)))))))))))))))
abbrev OpT : Type := Int × CmT
def kOpT : Kd OpT := Kd.pair (Kd.int .i64) kCmT
abbrev rdsT (x : OpT) : List Rd := x.2.2.2.2.2.1
abbrev wrsT (x : OpT) : List Wr := x.2.2.2.2.2.2.1
theorem kVlT_open {w : World} {x : Int × Int × ByteArray} {cs : List Value} (h : kVlT.K w x cs) : cs = [.int .i64 x.1, .int .i64 x.2.1, .string x.2.2] := by
  obtain ⟨_, _, rfl, rfl, ⟨_, _, rfl, rfl, rfl⟩⟩ := h
  rfl
theorem kDlT_open {w : World} {x : DlT} {cs : List Value} (h : kDlT.K w x cs) : ∃ D cd, cs = [.int .i64 x.1, .string x.2.1, .string x.2.2.1, .string x.2.2.2.1, .string x.2.2.2.2.1, .bool x.2.2.2.2.2.1, .int .i64 x.2.2.2.2.2.2.1, .int .i64 x.2.2.2.2.2.2.2.1.1, .int .i64 x.2.2.2.2.2.2.2.1.2.1, .string x.2.2.2.2.2.2.2.1.2.2, .slice D x.2.2.2.2.2.2.2.2.length cd] := by
  obtain ⟨_, _, rfl, rfl, ⟨_, _, rfl, rfl, ⟨_, _, rfl, rfl, ⟨_, _, rfl, rfl, ⟨_, _, rfl, rfl, ⟨_, _, rfl, rfl, ⟨_, _, rfl, rfl, ⟨_, _, rfl, hv, ⟨D, cd, rfl, _, _⟩⟩⟩⟩⟩⟩⟩⟩⟩ := h
  rw [kVlT_open hv]
  exact ⟨D, cd, rfl⟩
theorem seen_of {w : World} {A : Option Addr} {n : Nat} {rds : List Rd} (h : Kd.C kRdD w A n rds) : ∃ rps : List Rp, rps.map (·.r) = rds ∧ Kd.C kRp w A n rps ∧ ∀ p ∈ rps, SeenAt p w := by
  have each : ∀ i, i < rds.length → ∃ p : Rp, rds[i]? = some p.r ∧ SeenAt p w ∧ ∃ ad, A = some ad ∧ ∀ j u, (cRp p)[j]? = some u → w.cell? (ad.add (i * 3 + j)) = some u := by
    intro i hi
    obtain ⟨ad, e, hc⟩ := h.2.2 (by have := h.1; omega)
    obtain ⟨cs, _, hK, hcell⟩ := hc i rds[i] (List.getElem?_eq_getElem hi)
    obtain ⟨c1, c2, rfl, hs, ⟨A1, n1, rfl, hn1, hC⟩⟩ := hK
    have hs' := Sp_open hs
    subst hs'
    exact ⟨⟨rds[i], _⟩, List.getElem?_eq_getElem hi, ⟨A1, n1, rfl, hn1, hC⟩, ad, e, hcell⟩
  obtain ⟨rps, hl, hx⟩ := list_of (n := rds.length) each
  have hmap : rps.map (·.r) = rds := by
    apply List.ext_getElem?
    intro i
    rw [List.getElem?_map]
    by_cases hi : i < rds.length
    · have h1 : rps[i]? = some rps[i] := List.getElem?_eq_getElem (by omega)
      rw [h1, (hx i _ h1).1]
      rfl
    · rw [List.getElem?_eq_none (by omega), List.getElem?_eq_none (by omega)]
      rfl
  refine ⟨rps, hmap, ⟨by rw [hl]; exact h.1, h.2.1, fun hp => ?_⟩, fun p hp => ?_⟩
  · obtain ⟨ad, e, _⟩ := h.2.2 hp
    refine ⟨ad, e, fun i p hi => ?_⟩
    obtain ⟨_, ⟨A1, n1, ev, _, _⟩, ad', e', hc⟩ := hx i p hi
    obtain rfl : ad = ad' := by rw [e] at e'; exact Option.some.inj e'
    exact ⟨cRp p, rfl, kRp.K_of_M (Rp_mk w 0 (fun _ => True) p (by rw [ev]; rfl)), hc⟩
  · obtain ⟨i, hi⟩ := List.mem_iff_getElem?.1 hp
    exact (hx i p hi).2.1
/-- A step, read. -/
structure OpOf (o : OpS) (x : OpT) : Prop where
  rds : o.c.rds = rdsT x
  wrs : o.c.wrs = wrsT x
  map : o.rps.map (·.r) = o.c.rds
  one : (cOp o).all (fun q => q.oneCell') = true
theorem op_of {w : World} {x : OpT} {cs : List Value} (h : kOpT.K w x cs) : ∃ o : OpS, cs = cOp o ∧ OpOf o x ∧ CmAt o.A o.rps o.B o.c.wrs w := by
  obtain ⟨at_, kind, by_, t, home, rds, wrs, mn, til, ts, ver, call, dl, job, ph, mark, why⟩ := x
  obtain ⟨_, _, rfl, rfl, ⟨_, _, rfl, rfl, ⟨_, _, rfl, hby, ⟨_, _, rfl, ht, ⟨_, _, rfl, rfl, ⟨_, _, rfl, ⟨A, ca, rfl, hca, hA⟩, ⟨_, _, rfl, ⟨B, cb, rfl, hcb, hB⟩, ⟨_, _, rfl, rfl, ⟨_, _, rfl, rfl, ⟨_, _, rfl, rfl, ⟨_, _, rfl, rfl, ⟨_, _, rfl, rfl, ⟨_, _, rfl, hdl, ⟨_, _, rfl, rfl, ⟨_, _, rfl, rfl, ⟨_, _, rfl, rfl, rfl⟩⟩⟩⟩⟩⟩⟩⟩⟩⟩⟩⟩⟩⟩⟩⟩ := h
  have e1 := Td_open hby
  have e2 := Td_open ht
  subst e1
  subst e2
  obtain ⟨D, cd, rfl⟩ := kDlT_open hdl
  have hA : Kd.C kRdD w A rds.length rds := hA
  have hB : Kd.C kWr w B wrs.length wrs := hB
  obtain ⟨rps, hm, hR, hS⟩ := seen_of hA
  have hl : rps.length = rds.length := by rw [← hm, List.length_map]
  have hA' : Kd.C kRp w A rps.length rps := ⟨by have := hR.1; omega, by have := hR.2.1; omega, fun hp => hR.2.2 (by have := hR.1; omega)⟩
  refine ⟨⟨at_, ⟨kind, t, home, rds, wrs, mn, til, ts⟩, ⟨.int .i64 by_.a, .int .i64 by_.b, .int .i64 by_.c, .int .i64 ver, .int .i64 call, .int .i64 dl.1, .string dl.2.1, .string dl.2.2.1, .string dl.2.2.2.1, .string dl.2.2.2.2.1, .bool dl.2.2.2.2.2.1, .int .i64 dl.2.2.2.2.2.2.1, .int .i64 dl.2.2.2.2.2.2.2.1.1, .int .i64 dl.2.2.2.2.2.2.2.1.2.1, .string dl.2.2.2.2.2.2.2.1.2.2, .slice D dl.2.2.2.2.2.2.2.2.length cd, .int .i64 job, .int .i64 ph, .string mark, .int .i64 why⟩, A, ca, rps, B, cb⟩, ?_, ⟨rfl, rfl, hm, rfl⟩, hA', hS, hB⟩
  show _ = ([_, _, _, _, _, _, _, _, _, .slice A rps.length ca, _, _, _, _, _, _, _, _, _, _, _, _, _, _, _, _, _, _, _, _, _] : List Value)
  rw [hl]
  rfl
theorem cm_below {o : OpS} {w w' : World} (h : CmAt o.A o.rps o.B o.c.wrs w) (hb : Below w.heap.size w w') : CmAt o.A o.rps o.B o.c.wrs w' :=
  ⟨Kd.C_below h.1 hb, fun p hp => by
    obtain ⟨A1, c1, e, hc, hC⟩ := h.2.1 p hp
    exact ⟨A1, c1, e, hc, Kd.C_below hC hb⟩, Kd.C_below h.2.2 hb⟩
theorem scr_of {w : World} {A : Option Addr} {n : Nat} {xs : List OpT} (h : Kd.C kOpT w A n xs) :
    ∃ os : List OpS, os.length = xs.length ∧ (∀ (i : Nat) (o : OpS), os[i]? = some o → ∃ x, xs[i]? = some x ∧ OpOf o x) ∧ ∀ w', Below w.heap.size w w' → ScrAt A os w' := by
  have each : ∀ i, i < xs.length → ∃ o : OpS, (∃ x, xs[i]? = some x ∧ OpOf o x) ∧ CmAt o.A o.rps o.B o.c.wrs w ∧ ∃ ad, A = some ad ∧ ∀ j u, (cOp o)[j]? = some u → w.cell? (ad.add (i * 31 + j)) = some u := by
    intro i hi
    obtain ⟨ad, e, hc⟩ := h.2.2 (by have := h.1; omega)
    obtain ⟨cs, _, hK, hcell⟩ := hc i xs[i] (List.getElem?_eq_getElem hi)
    obtain ⟨o, rfl, ho, hcm⟩ := op_of hK
    exact ⟨o, ⟨xs[i], List.getElem?_eq_getElem hi, ho⟩, hcm, ad, e, hcell⟩
  obtain ⟨os, hl, hx⟩ := list_of (n := xs.length) each
  refine ⟨os, hl, fun i o hi => (hx i o hi).1, fun w' hb => ?_⟩
  have hC : Kd.C kOpS w A os.length os := by
    refine ⟨rfl, by have := h.2.1; have := h.1; omega, fun hp => ?_⟩
    obtain ⟨ad, e, _⟩ := h.2.2 (by have := h.1; omega)
    refine ⟨ad, e, fun i o hi => ?_⟩
    obtain ⟨⟨x, _, ho⟩, _, ad', e', hc⟩ := hx i o hi
    obtain rfl : ad = ad' := by rw [e] at e'; exact Option.some.inj e'
    exact ⟨cOp o, rfl, ⟨rfl, rfl, fun u hu => List.all_eq_true.1 ho.one u hu⟩, hc⟩
  refine ⟨Kd.C_below hC hb, fun o ho => ?_⟩
  obtain ⟨i, hi⟩ := List.mem_iff_getElem?.1 ho
  exact cm_below (hx i o hi).2.1 hb
/-- Its openings. -/
theorem openSp : OpensU Try.prog 24 kSp (fun _ => 3) (fun x => x.a.size ≤ 140737488351232) := by
  intro H enc W fuel cs d ps hd hw
  obtain ⟨x, a, b, c⟩ := (opensU_iso (f := fun x : Sp => (x.a, x.b)) (fun x : ByteArray × ByteArray => (⟨x.1, x.2⟩ : Sp)) (fun _ => rfl) (opensU_struct Try.underlying24 (by kernel_rfl) (fieldsU_cons rfl (by kernel_rfl) (opensU_string Try.underlying9) (fieldsU_one rfl (by kernel_rfl) (opensU_string Try.underlying9))))) enc W fuel cs d ps hd hw
  exact ⟨x, a, b.1, c⟩
theorem openSg : OpensU Try.prog 53 kSg (fun _ => 1) (fun _ => True) := by
  intro H enc W fuel cs d ps hd hw
  obtain ⟨x, a, b, c⟩ := (opensU_iso (f := fun x : Sg => (x.key, x.ts)) (fun x : ByteArray × Int => (⟨x.1, x.2⟩ : Sg)) (fun _ => rfl) (opensU_struct Try.underlying53 (by kernel_rfl) (fieldsU_cons rfl (by kernel_rfl) (opensU_string Try.underlying9) (fieldsU_one rfl (by kernel_rfl) (opensU_int Try.underlying3))))) enc W fuel cs d ps hd hw
  exact ⟨x, a, trivial, bulk_one d⟩
theorem openWr : OpensU Try.prog 64 kWr (fun _ => 1) (fun x => x.key.size ≤ 140737488351232) := by
  intro H enc W fuel cs d ps hd hw
  obtain ⟨x, a, b, c⟩ := (opensU_iso (f := fun x : Wr => (x.key, x.val, x.dead)) (fun x : ByteArray × ByteArray × Bool => (⟨x.1, x.2.1, x.2.2⟩ : Wr)) (fun _ => rfl) (opensU_struct Try.underlying64 (by kernel_rfl) (fieldsU_cons rfl (by kernel_rfl) (opensU_string Try.underlying9) (fieldsU_cons rfl (by kernel_rfl) (opensU_string Try.underlying9) (fieldsU_one rfl (by kernel_rfl) (opensU_bool Try.underlying4)))))) enc W fuel cs d ps hd hw
  exact ⟨x, a, b.1, bulk_one d⟩
theorem openTd : OpensU Try.prog 26 kTd (fun _ => 1) (fun _ => True) := by
  intro H enc W fuel cs d ps hd hw
  obtain ⟨x, a, b, c⟩ := (opensU_iso (f := fun x : Td => (x.a, x.b, x.c)) (fun x : Int × Int × Int => (⟨x.1, x.2.1, x.2.2⟩ : Td)) (fun _ => rfl) (opensU_struct Try.underlying26 (by kernel_rfl) (fieldsU_cons rfl (by kernel_rfl) (opensU_int Try.underlying3) (fieldsU_cons rfl (by kernel_rfl) (opensU_int Try.underlying3) (fieldsU_one rfl (by kernel_rfl) (opensU_int Try.underlying3)))))) enc W fuel cs d ps hd hw
  exact ⟨x, a, trivial, bulk_one d⟩
theorem sum_ge {α : Type} (l : List α) (f g : α → Nat) (h : ∀ x, f x ≤ g x) : (l.map f).sum ≤ (l.map g).sum := by
  induction l with
  | nil => simp
  | cons x l ih => have := h x; simp only [List.map_cons, List.sum_cons]; omega
theorem sum_one {α : Type} (l : List α) : (l.map (fun _ => 1)).sum = l.length := by
  induction l with
  | nil => rfl
  | cons x l ih => simp only [List.map_cons, List.sum_cons, List.length_cons, ih]; omega
theorem openRd : OpensU Try.prog 55 kRdD (fun r => r.seen.length + 1) (fun r => r.seen.length * 24 ≤ 140737488355328 ∧ r.sp.a.size ≤ 140737488351232) := by
  intro H enc W fuel cs d ps hd hw
  obtain ⟨x, a, b, c⟩ := (opensU_iso (f := fun r : Rd => (r.sp, r.seen)) (fun x : Sp × List Sg => (⟨x.1, x.2⟩ : Rd)) (fun _ => rfl) (opensU_struct Try.underlying55 (by kernel_rfl) (fieldsU_cons rfl (by kernel_rfl) openSp (fieldsU_one rfl (by kernel_rfl) (opensU_slice Try.underlying49 (by kernel_rfl) openSg))))) enc W fuel cs d ps hd hw
  refine ⟨x, a, ?_, ?_⟩
  · have := b.2.1
    rw [show Try.prog.bytesOf 53 = 24 by kernel_rfl] at this
    have : x.seen.length * 24 ≤ 140737488351232 := this
    exact ⟨by omega, b.1⟩
  · have : 3 + ((x.seen.map (fun _ => 1)).sum + 1) + 1 ≤ Rows.uptoBulk d := c
    rw [sum_one] at this
    show x.seen.length + 1 ≤ Rows.uptoBulk d
    omega
theorem openVl : Opens Try.prog 34 kVlT (fun _ => True) := by
  intro H enc W fuel cs d ps hd hw
  obtain ⟨x, a, b⟩ := (opens_struct Try.underlying34 (by kernel_rfl) (fields_cons rfl (by kernel_rfl) (opens_int Try.underlying3) (fields_cons rfl (by kernel_rfl) (opens_int Try.underlying2) (fields_one rfl (by kernel_rfl) (opens_string Try.underlying9))))) enc W fuel cs d ps hd hw
  exact ⟨x, a, trivial⟩
theorem openCl : Opens Try.prog 185 kClT (fun _ => True) := by
  intro H enc W fuel cs d ps hd hw
  obtain ⟨x, a, b⟩ := (opens_struct Try.underlying185 (by kernel_rfl) (fields_cons rfl (by kernel_rfl) (opens_int Try.underlying3) (fields_cons rfl (by kernel_rfl) (opens_string Try.underlying9) (fields_cons rfl (by kernel_rfl) (opens_int Try.underlying3) (fields_cons rfl (by kernel_rfl) (opens_int Try.underlying3) (fields_one rfl (by kernel_rfl) openVl)))))) enc W fuel cs d ps hd hw
  exact ⟨x, a, trivial⟩
theorem openDl : Opens Try.prog 37 kDlT (fun _ => True) := by
  intro H enc W fuel cs d ps hd hw
  obtain ⟨x, a, b⟩ := (opens_struct Try.underlying37 (by kernel_rfl) (fields_cons rfl (by kernel_rfl) (opens_int Try.underlying3) (fields_cons rfl (by kernel_rfl) (opens_string Try.underlying9) (fields_cons rfl (by kernel_rfl) (opens_string Try.underlying9) (fields_cons rfl (by kernel_rfl) (opens_string Try.underlying9) (fields_cons rfl (by kernel_rfl) (opens_string Try.underlying9) (fields_cons rfl (by kernel_rfl) (opens_bool Try.underlying4) (fields_cons rfl (by kernel_rfl) (opens_int Try.underlying3) (fields_cons rfl (by kernel_rfl) openVl (fields_one rfl (by kernel_rfl) (opens_slice Try.underlying35 (by kernel_rfl) openCl)))))))))) ) enc W fuel cs d ps hd hw
  exact ⟨x, a, trivial⟩
def wtX (x : OpT) : Nat := 1 + (wrsT x).length + (rdsT x).length + ((rdsT x).map (·.seen.length)).sum
structure OpB (x : OpT) : Prop where
  r56 : (rdsT x).length * 56 ≤ 140737488355328
  w40 : (wrsT x).length * 40 ≤ 140737488355328
  s24 : ∀ r ∈ rdsT x, r.seen.length * 24 ≤ 140737488355328
  keys : ∀ w ∈ wrsT x, w.key.size ≤ 140737488351232
  spans : ∀ r ∈ rdsT x, r.sp.a.size ≤ 140737488351232
theorem sum_succ (l : List Rd) : (l.map (fun r => r.seen.length + 1)).sum = (l.map (·.seen.length)).sum + l.length := by
  induction l with
  | nil => rfl
  | cons x l ih => simp only [List.map_cons, List.sum_cons, List.length_cons, ih]; omega
theorem openOp : OpensU Try.prog 42 kOpT wtX OpB := by
  intro H enc W fuel cs d ps hd hw
  obtain ⟨x, a, b, c⟩ := (opensU_struct Try.underlying42 (by kernel_rfl) (fieldsU_cons rfl (by kernel_rfl) (opensU_int Try.underlying3) (fieldsU_one rfl (by kernel_rfl) (opensU_struct Try.underlying40 (by kernel_rfl)
    (fieldsU_cons rfl (by kernel_rfl) (opensU_int Try.underlying3) (fieldsU_cons rfl (by kernel_rfl) openTd (fieldsU_cons rfl (by kernel_rfl) openTd (fieldsU_cons rfl (by kernel_rfl) (opensU_int Try.underlying3) (fieldsU_cons rfl (by kernel_rfl) (opensU_slice Try.underlying31 (by kernel_rfl) openRd) (fieldsU_cons rfl (by kernel_rfl) (opensU_slice Try.underlying32 (by kernel_rfl) openWr)
    (fieldsU_cons rfl (by kernel_rfl) (opensU_int Try.underlying3) (fieldsU_cons rfl (by kernel_rfl) (opensU_int Try.underlying3) (fieldsU_cons rfl (by kernel_rfl) (opensU_int Try.underlying3) (fieldsU_cons rfl (by kernel_rfl) (opensU_int Try.underlying3) (fieldsU_cons rfl (by kernel_rfl) (opensU_int Try.underlying3) (fieldsU_cons rfl (by kernel_rfl) (opensU_one openDl) (fieldsU_cons rfl (by kernel_rfl) (opensU_int Try.underlying3) (fieldsU_cons rfl (by kernel_rfl) (opensU_int Try.underlying3) (fieldsU_cons rfl (by kernel_rfl) (opensU_string Try.underlying9) (fieldsU_one rfl (by kernel_rfl) (opensU_int Try.underlying38))))))))))))))))))))) enc W fuel cs d ps hd hw
  obtain ⟨-, -, -, -, -, hr, hwr, -⟩ := b
  refine ⟨x, a, ⟨?_, ?_, fun r h => (hr.2 r h).1, hwr.2, fun r h => (hr.2 r h).2⟩, ?_⟩
  · have := hr.1
    rw [show Try.prog.bytesOf 55 = 56 by kernel_rfl] at this
    have : (rdsT x).length * 56 ≤ 140737488351232 := this
    omega
  · have := hwr.1
    rw [show Try.prog.bytesOf 64 = 40 by kernel_rfl] at this
    have : (wrsT x).length * 40 ≤ 140737488351232 := this
    omega
  · have hq : 1 + (1 + (1 + (1 + (1 + ((((rdsT x).map (fun r => r.seen.length + 1)).sum + 1) + (((wrsT x).map (fun _ => 1)).sum + 1 + (1 + (1 + (1 + (1 + (1 + (1 + (1 + (1 + (1 + 1)))))))))))))) + 1) + 1 ≤ Rows.uptoBulk d := c
    rw [sum_succ, sum_one] at hq
    unfold wtX
    omega
end Go.Proofs.Ytphenpncdhgdhaa.Shd
