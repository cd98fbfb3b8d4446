/- The kinds of a shard's memory: cells, openings, what is read of a row. -/
import Derived.Test.YtphenpncdhgdhaaShP
import Derived.Test.YtphenpncdhgdhaaSomeS
import Derived.Test.YtphenpncdhgdhaaSlMapT
namespace Go.Proofs.Ytphenpncdhgdhaa.Shd
open Go.RowKit Go.Proofs.YtphenpncdhgdhaaW.PrintWords Go.Proofs.YtphenpncdhgdhaaW.PrintLast Go.Proofs.YtphenpncdhgdhaaW.PrintMore Go.Proofs.Ytphenpncdhgdhaa.Sl Go.Proofs.Ytphenpncdhgdhaa.Str Go.Proofs.Ytphenpncdhgdhaa.Ver
set_option linter.unusedVariables false
set_option linter.unusedSimpArgs false
/-- One cell, whatever it is. -/
def kV : Kd Value := Kd.iso (raw 1) (fun v => [v])
theorem kV_open {w : World} {x : Value} {cs : List Value} (h : kV.K w x cs) : cs = [x] := h.1
theorem kV_mk {w : World} {b : Nat} {ok : Nat → Prop} {x : Value} (h : x.oneCell' = true) : kV.M w b ok x [x] := ⟨rfl, rfl, fun u hu => by rw [List.mem_singleton.1 hu]; exact h⟩
/-- A lock and where its lists lie. -/
structure Lp where
  l : Lk
  u : Value
  v : Value
/-- A read and where its list lies. -/
structure Rp where
  r : Rd
  v : Value
/-- An element's cells, read of a row that lies anywhere. -/
theorem C_at {α : Type} {d : Kd α} {enc : α → List Value} (hopen : ∀ {w : World} {x : α} {cs : List Value}, d.K w x cs → cs = enc x) {w : World} {A : Option Addr} {n : Nat} {xs : List α} (h : Kd.C d w A n xs) (i : Nat) (x : α) (hx : xs[i]? = some x) :
    ∃ ad, A = some ad ∧ ∀ j u, (enc x)[j]? = some u → w.cell? (ad.add (i * d.sz + j)) = some u := by
  have hi : i < xs.length := (List.getElem?_eq_some_iff.1 hx).1
  obtain ⟨ad, e, hc⟩ := h.2.2 (by have := h.1; omega)
  obtain ⟨cs, _, hK, hcell⟩ := hc i x hx
  obtain rfl := hopen hK
  exact ⟨ad, e, hcell⟩
def kTd : Kd Td := Kd.iso (Kd.pair (Kd.int .i64) (Kd.pair (Kd.int .i64) (Kd.int .i64))) (fun x => (x.a, x.b, x.c))
abbrev cTd (x : Td) : List Value := [.int .i64 x.a, .int .i64 x.b, .int .i64 x.c]
theorem Td_open {w : World} {x : Td} {cs : List Value} (h : kTd.K w x cs) : cs = cTd x := by
  obtain ⟨_, _, rfl, rfl, ⟨_, _, rfl, rfl, rfl⟩⟩ := h
  exact rfl
theorem Td_mk (w : World) (b : Nat) (ok : Nat → Prop) (x : Td) : kTd.M w b ok x (cTd x) := ⟨[.int .i64 x.a], [.int .i64 x.b, .int .i64 x.c], rfl, rfl, ⟨[.int .i64 x.b], [.int .i64 x.c], rfl, rfl, rfl⟩⟩
theorem Td_info : (Try.prog.info? 26).map (fun i => (i.zero, i.size, i.bytes)) = some (some (.agg #[.int .i64 0, .int .i64 0, .int .i64 0]), 3, 24) := by kernel_rfl
theorem Td_flat : Flat kTd := fun w b x cs h => by
  obtain rfl := Td_open h
  exact Td_mk _ _ _ _
theorem Td_at {w : World} {A : Option Addr} {n : Nat} {xs : List Td} (h : Kd.C kTd w A n xs) (i : Nat) (x : Td) (hx : xs[i]? = some x) :
    ∃ ad, A = some ad ∧ w.cell? (ad.add (i * 3)) = some (.int .i64 x.a) ∧ w.cell? ⟨(ad.add (i * 3)).block, (ad.add (i * 3)).off + 1, none⟩ = some (.int .i64 x.b) ∧ w.cell? ⟨(ad.add (i * 3)).block, (ad.add (i * 3)).off + 2, none⟩ = some (.int .i64 x.c) := by
  obtain ⟨ad, e, hc0⟩ := C_at (enc := cTd) Td_open h i x hx
  have hc : ∀ j u, (cTd x)[j]? = some u → w.cell? (ad.add (i * 3 + j)) = some u := hc0
  exact ⟨ad, e, hc 0 _ rfl, by rw [← add_field _ _ 1 (by omega)]; exact hc 1 _ rfl, by rw [← add_field _ _ 2 (by omega)]; exact hc 2 _ rfl⟩
theorem Td_row {w0 w : World} {S0 : Nat → Prop} {F : List HP} {t g n c : Nat} {xs : List Td} (h : St w0 S0 w (HP.row kTd t (.slice (some ⟨g, 0, none⟩) n c) xs :: F)) (i : Nat) (x : Td) (hx : xs[i]? = some x) :
    w.cell? ⟨g, i * 3, none⟩ = some (.int .i64 x.a) ∧ w.cell? ⟨g, i * 3 + 1, none⟩ = some (.int .i64 x.b) ∧ w.cell? ⟨g, i * 3 + 2, none⟩ = some (.int .i64 x.c) := by
  obtain ⟨hi, rfl⟩ := List.getElem?_eq_some_iff.1 hx
  have hf := fun k hk => flat_cell (enc := cTd) Td_open h i hi k hk
  exact ⟨hf 0 (show 0 < 3 by decide), hf 1 (show 1 < 3 by decide), hf 2 (show 2 < 3 by decide)⟩
theorem Td_reps1 {w : World} {b : Nat} {ok : Nat → Prop} (x : Td) : Reps (kTd.M w b ok) 3 [x] (cTd x) := reps1_ (Td_mk w b ok x) rfl
def kWr : Kd Wr := Kd.iso (Kd.pair Kd.string (Kd.pair Kd.string Kd.bool)) (fun x => (x.key, x.val, x.dead))
abbrev cWr (x : Wr) : List Value := [.string x.key, .string x.val, .bool x.dead]
theorem Wr_open {w : World} {x : Wr} {cs : List Value} (h : kWr.K w x cs) : cs = cWr x := by
  obtain ⟨_, _, rfl, rfl, ⟨_, _, rfl, rfl, rfl⟩⟩ := h
  exact rfl
theorem Wr_mk (w : World) (b : Nat) (ok : Nat → Prop) (x : Wr) : kWr.M w b ok x (cWr x) := ⟨[.string x.key], [.string x.val, .bool x.dead], rfl, rfl, ⟨[.string x.val], [.bool x.dead], rfl, rfl, rfl⟩⟩
theorem Wr_info : (Try.prog.info? 64).map (fun i => (i.zero, i.size, i.bytes)) = some (some (.agg #[.string ⟨#[]⟩, .string ⟨#[]⟩, .bool false]), 3, 40) := by kernel_rfl
theorem Wr_flat : Flat kWr := fun w b x cs h => by
  obtain rfl := Wr_open h
  exact Wr_mk _ _ _ _
theorem Wr_at {w : World} {A : Option Addr} {n : Nat} {xs : List Wr} (h : Kd.C kWr w A n xs) (i : Nat) (x : Wr) (hx : xs[i]? = some x) :
    ∃ ad, A = some ad ∧ w.cell? (ad.add (i * 3)) = some (.string x.key) ∧ w.cell? ⟨(ad.add (i * 3)).block, (ad.add (i * 3)).off + 1, none⟩ = some (.string x.val) ∧ w.cell? ⟨(ad.add (i * 3)).block, (ad.add (i * 3)).off + 2, none⟩ = some (.bool x.dead) := by
  obtain ⟨ad, e, hc0⟩ := C_at (enc := cWr) Wr_open h i x hx
  have hc : ∀ j u, (cWr x)[j]? = some u → w.cell? (ad.add (i * 3 + j)) = some u := hc0
  exact ⟨ad, e, hc 0 _ rfl, by rw [← add_field _ _ 1 (by omega)]; exact hc 1 _ rfl, by rw [← add_field _ _ 2 (by omega)]; exact hc 2 _ rfl⟩
theorem Wr_row {w0 w : World} {S0 : Nat → Prop} {F : List HP} {t g n c : Nat} {xs : List Wr} (h : St w0 S0 w (HP.row kWr t (.slice (some ⟨g, 0, none⟩) n c) xs :: F)) (i : Nat) (x : Wr) (hx : xs[i]? = some x) :
    w.cell? ⟨g, i * 3, none⟩ = some (.string x.key) ∧ w.cell? ⟨g, i * 3 + 1, none⟩ = some (.string x.val) ∧ w.cell? ⟨g, i * 3 + 2, none⟩ = some (.bool x.dead) := by
  obtain ⟨hi, rfl⟩ := List.getElem?_eq_some_iff.1 hx
  have hf := fun k hk => flat_cell (enc := cWr) Wr_open h i hi k hk
  exact ⟨hf 0 (show 0 < 3 by decide), hf 1 (show 1 < 3 by decide), hf 2 (show 2 < 3 by decide)⟩
theorem Wr_reps1 {w : World} {b : Nat} {ok : Nat → Prop} (x : Wr) : Reps (kWr.M w b ok) 3 [x] (cWr x) := reps1_ (Wr_mk w b ok x) rfl
def kSp : Kd Sp := Kd.iso (Kd.pair Kd.string Kd.string) (fun x => (x.a, x.b))
abbrev cSp (x : Sp) : List Value := [.string x.a, .string x.b]
theorem Sp_open {w : World} {x : Sp} {cs : List Value} (h : kSp.K w x cs) : cs = cSp x := by
  obtain ⟨_, _, rfl, rfl, rfl⟩ := h
  exact rfl
theorem Sp_mk (w : World) (b : Nat) (ok : Nat → Prop) (x : Sp) : kSp.M w b ok x (cSp x) := ⟨[.string x.a], [.string x.b], rfl, rfl, rfl⟩
theorem Sp_info : (Try.prog.info? 24).map (fun i => (i.zero, i.size, i.bytes)) = some (some (.agg #[.string ⟨#[]⟩, .string ⟨#[]⟩]), 2, 32) := by kernel_rfl
theorem Sp_flat : Flat kSp := fun w b x cs h => by
  obtain rfl := Sp_open h
  exact Sp_mk _ _ _ _
theorem Sp_at {w : World} {A : Option Addr} {n : Nat} {xs : List Sp} (h : Kd.C kSp w A n xs) (i : Nat) (x : Sp) (hx : xs[i]? = some x) :
    ∃ ad, A = some ad ∧ w.cell? (ad.add (i * 2)) = some (.string x.a) ∧ w.cell? ⟨(ad.add (i * 2)).block, (ad.add (i * 2)).off + 1, none⟩ = some (.string x.b) := by
  obtain ⟨ad, e, hc0⟩ := C_at (enc := cSp) Sp_open h i x hx
  have hc : ∀ j u, (cSp x)[j]? = some u → w.cell? (ad.add (i * 2 + j)) = some u := hc0
  exact ⟨ad, e, hc 0 _ rfl, by rw [← add_field _ _ 1 (by omega)]; exact hc 1 _ rfl⟩
theorem Sp_row {w0 w : World} {S0 : Nat → Prop} {F : List HP} {t g n c : Nat} {xs : List Sp} (h : St w0 S0 w (HP.row kSp t (.slice (some ⟨g, 0, none⟩) n c) xs :: F)) (i : Nat) (x : Sp) (hx : xs[i]? = some x) :
    w.cell? ⟨g, i * 2, none⟩ = some (.string x.a) ∧ w.cell? ⟨g, i * 2 + 1, none⟩ = some (.string x.b) := by
  obtain ⟨hi, rfl⟩ := List.getElem?_eq_some_iff.1 hx
  have hf := fun k hk => flat_cell (enc := cSp) Sp_open h i hi k hk
  exact ⟨hf 0 (show 0 < 2 by decide), hf 1 (show 1 < 2 by decide)⟩
theorem Sp_reps1 {w : World} {b : Nat} {ok : Nat → Prop} (x : Sp) : Reps (kSp.M w b ok) 2 [x] (cSp x) := reps1_ (Sp_mk w b ok x) rfl
def kSg : Kd Sg := Kd.iso (Kd.pair Kd.string (Kd.int .i64)) (fun x => (x.key, x.ts))
abbrev cSg (x : Sg) : List Value := [.string x.key, .int .i64 x.ts]
theorem Sg_open {w : World} {x : Sg} {cs : List Value} (h : kSg.K w x cs) : cs = cSg x := by
  obtain ⟨_, _, rfl, rfl, rfl⟩ := h
  exact rfl
theorem Sg_mk (w : World) (b : Nat) (ok : Nat → Prop) (x : Sg) : kSg.M w b ok x (cSg x) := ⟨[.string x.key], [.int .i64 x.ts], rfl, rfl, rfl⟩
theorem Sg_info : (Try.prog.info? 53).map (fun i => (i.zero, i.size, i.bytes)) = some (some (.agg #[.string ⟨#[]⟩, .int .i64 0]), 2, 24) := by kernel_rfl
theorem Sg_flat : Flat kSg := fun w b x cs h => by
  obtain rfl := Sg_open h
  exact Sg_mk _ _ _ _
theorem Sg_at {w : World} {A : Option Addr} {n : Nat} {xs : List Sg} (h : Kd.C kSg w A n xs) (i : Nat) (x : Sg) (hx : xs[i]? = some x) :
    ∃ ad, A = some ad ∧ w.cell? (ad.add (i * 2)) = some (.string x.key) ∧ w.cell? ⟨(ad.add (i * 2)).block, (ad.add (i * 2)).off + 1, none⟩ = some (.int .i64 x.ts) := by
  obtain ⟨ad, e, hc0⟩ := C_at (enc := cSg) Sg_open h i x hx
  have hc : ∀ j u, (cSg x)[j]? = some u → w.cell? (ad.add (i * 2 + j)) = some u := hc0
  exact ⟨ad, e, hc 0 _ rfl, by rw [← add_field _ _ 1 (by omega)]; exact hc 1 _ rfl⟩
theorem Sg_row {w0 w : World} {S0 : Nat → Prop} {F : List HP} {t g n c : Nat} {xs : List Sg} (h : St w0 S0 w (HP.row kSg t (.slice (some ⟨g, 0, none⟩) n c) xs :: F)) (i : Nat) (x : Sg) (hx : xs[i]? = some x) :
    w.cell? ⟨g, i * 2, none⟩ = some (.string x.key) ∧ w.cell? ⟨g, i * 2 + 1, none⟩ = some (.int .i64 x.ts) := by
  obtain ⟨hi, rfl⟩ := List.getElem?_eq_some_iff.1 hx
  have hf := fun k hk => flat_cell (enc := cSg) Sg_open h i hi k hk
  exact ⟨hf 0 (show 0 < 2 by decide), hf 1 (show 1 < 2 by decide)⟩
theorem Sg_reps1 {w : World} {b : Nat} {ok : Nat → Prop} (x : Sg) : Reps (kSg.M w b ok) 2 [x] (cSg x) := reps1_ (Sg_mk w b ok x) rfl
def kRc : Kd Rc := Kd.iso (Kd.pair (Kd.int .i64) (Kd.pair (Kd.int .i64) (Kd.pair (Kd.int .i64) (Kd.int .i64)))) (fun x => (x.t.a, x.t.b, x.t.c, x.ts))
abbrev cRc (x : Rc) : List Value := [.int .i64 x.t.a, .int .i64 x.t.b, .int .i64 x.t.c, .int .i64 x.ts]
theorem Rc_open {w : World} {x : Rc} {cs : List Value} (h : kRc.K w x cs) : cs = cRc x := by
  obtain ⟨_, _, rfl, rfl, ⟨_, _, rfl, rfl, ⟨_, _, rfl, rfl, rfl⟩⟩⟩ := h
  exact rfl
theorem Rc_mk (w : World) (b : Nat) (ok : Nat → Prop) (x : Rc) : kRc.M w b ok x (cRc x) := ⟨[.int .i64 x.t.a], [.int .i64 x.t.b, .int .i64 x.t.c, .int .i64 x.ts], rfl, rfl, ⟨[.int .i64 x.t.b], [.int .i64 x.t.c, .int .i64 x.ts], rfl, rfl, ⟨[.int .i64 x.t.c], [.int .i64 x.ts], rfl, rfl, rfl⟩⟩⟩
theorem Rc_info : (Try.prog.info? 109).map (fun i => (i.zero, i.size, i.bytes)) = some (some (.agg #[.int .i64 0, .int .i64 0, .int .i64 0, .int .i64 0]), 4, 32) := by kernel_rfl
theorem Rc_flat : Flat kRc := fun w b x cs h => by
  obtain rfl := Rc_open h
  exact Rc_mk _ _ _ _
theorem Rc_at {w : World} {A : Option Addr} {n : Nat} {xs : List Rc} (h : Kd.C kRc w A n xs) (i : Nat) (x : Rc) (hx : xs[i]? = some x) :
    ∃ ad, A = some ad ∧ w.cell? (ad.add (i * 4)) = some (.int .i64 x.t.a) ∧ w.cell? ⟨(ad.add (i * 4)).block, (ad.add (i * 4)).off + 1, none⟩ = some (.int .i64 x.t.b) ∧ w.cell? ⟨(ad.add (i * 4)).block, (ad.add (i * 4)).off + 2, none⟩ = some (.int .i64 x.t.c) ∧ w.cell? ⟨(ad.add (i * 4)).block, (ad.add (i * 4)).off + 3, none⟩ = some (.int .i64 x.ts) := by
  obtain ⟨ad, e, hc0⟩ := C_at (enc := cRc) Rc_open h i x hx
  have hc : ∀ j u, (cRc x)[j]? = some u → w.cell? (ad.add (i * 4 + j)) = some u := hc0
  exact ⟨ad, e, hc 0 _ rfl, by rw [← add_field _ _ 1 (by omega)]; exact hc 1 _ rfl, by rw [← add_field _ _ 2 (by omega)]; exact hc 2 _ rfl, by rw [← add_field _ _ 3 (by omega)]; exact hc 3 _ rfl⟩
theorem Rc_row {w0 w : World} {S0 : Nat → Prop} {F : List HP} {t g n c : Nat} {xs : List Rc} (h : St w0 S0 w (HP.row kRc t (.slice (some ⟨g, 0, none⟩) n c) xs :: F)) (i : Nat) (x : Rc) (hx : xs[i]? = some x) :
    w.cell? ⟨g, i * 4, none⟩ = some (.int .i64 x.t.a) ∧ w.cell? ⟨g, i * 4 + 1, none⟩ = some (.int .i64 x.t.b) ∧ w.cell? ⟨g, i * 4 + 2, none⟩ = some (.int .i64 x.t.c) ∧ w.cell? ⟨g, i * 4 + 3, none⟩ = some (.int .i64 x.ts) := by
  obtain ⟨hi, rfl⟩ := List.getElem?_eq_some_iff.1 hx
  have hf := fun k hk => flat_cell (enc := cRc) Rc_open h i hi k hk
  exact ⟨hf 0 (show 0 < 4 by decide), hf 1 (show 1 < 4 by decide), hf 2 (show 2 < 4 by decide), hf 3 (show 3 < 4 by decide)⟩
theorem Rc_reps1 {w : World} {b : Nat} {ok : Nat → Prop} (x : Rc) : Reps (kRc.M w b ok) 4 [x] (cRc x) := reps1_ (Rc_mk w b ok x) rfl
def kLp : Kd Lp := Kd.iso (Kd.pair (Kd.int .i64) (Kd.pair (Kd.int .i64) (Kd.pair (Kd.int .i64) (Kd.pair (Kd.int .i64) (Kd.pair (Kd.int .i64) (Kd.pair kV kV)))))) (fun x => (x.l.t.a, x.l.t.b, x.l.t.c, x.l.home, x.l.til, x.u, x.v))
abbrev cLp (x : Lp) : List Value := [.int .i64 x.l.t.a, .int .i64 x.l.t.b, .int .i64 x.l.t.c, .int .i64 x.l.home, .int .i64 x.l.til, x.u, x.v]
theorem Lp_open {w : World} {x : Lp} {cs : List Value} (h : kLp.K w x cs) : cs = cLp x := by
  obtain ⟨_, _, rfl, rfl, ⟨_, _, rfl, rfl, ⟨_, _, rfl, rfl, ⟨_, _, rfl, rfl, ⟨_, _, rfl, rfl, ⟨_, _, rfl, hp, hq⟩⟩⟩⟩⟩⟩ := h
  rw [kV_open hp, kV_open hq]
  rfl
theorem Lp_mk (w : World) (b : Nat) (ok : Nat → Prop) (x : Lp) (hu : x.u.oneCell' = true) (hv : x.v.oneCell' = true) : kLp.M w b ok x (cLp x) := ⟨[.int .i64 x.l.t.a], [.int .i64 x.l.t.b, .int .i64 x.l.t.c, .int .i64 x.l.home, .int .i64 x.l.til, x.u, x.v], rfl, rfl, ⟨[.int .i64 x.l.t.b], [.int .i64 x.l.t.c, .int .i64 x.l.home, .int .i64 x.l.til, x.u, x.v], rfl, rfl, ⟨[.int .i64 x.l.t.c], [.int .i64 x.l.home, .int .i64 x.l.til, x.u, x.v], rfl, rfl, ⟨[.int .i64 x.l.home], [.int .i64 x.l.til, x.u, x.v], rfl, rfl, ⟨[.int .i64 x.l.til], [x.u, x.v], rfl, rfl, ⟨[x.u], [x.v], rfl, kV_mk hu, kV_mk hv⟩⟩⟩⟩⟩⟩
theorem Lp_info : (Try.prog.info? 62).map (fun i => (i.zero, i.size, i.bytes)) = some (some (.agg #[.int .i64 0, .int .i64 0, .int .i64 0, .int .i64 0, .int .i64 0, .slice none 0 0, .slice none 0 0]), 7, 88) := by kernel_rfl
theorem Lp_flat : Flat kLp := fun _ _ _ _ h => h
theorem Lp_at {w : World} {A : Option Addr} {n : Nat} {xs : List Lp} (h : Kd.C kLp w A n xs) (i : Nat) (x : Lp) (hx : xs[i]? = some x) :
    ∃ ad, A = some ad ∧ w.cell? (ad.add (i * 7)) = some (.int .i64 x.l.t.a) ∧ w.cell? ⟨(ad.add (i * 7)).block, (ad.add (i * 7)).off + 1, none⟩ = some (.int .i64 x.l.t.b) ∧ w.cell? ⟨(ad.add (i * 7)).block, (ad.add (i * 7)).off + 2, none⟩ = some (.int .i64 x.l.t.c) ∧ w.cell? ⟨(ad.add (i * 7)).block, (ad.add (i * 7)).off + 3, none⟩ = some (.int .i64 x.l.home) ∧ w.cell? ⟨(ad.add (i * 7)).block, (ad.add (i * 7)).off + 4, none⟩ = some (.int .i64 x.l.til) ∧ w.cell? ⟨(ad.add (i * 7)).block, (ad.add (i * 7)).off + 5, none⟩ = some (x.u) ∧ w.cell? ⟨(ad.add (i * 7)).block, (ad.add (i * 7)).off + 6, none⟩ = some (x.v) := by
  obtain ⟨ad, e, hc0⟩ := C_at (enc := cLp) Lp_open h i x hx
  have hc : ∀ j u, (cLp x)[j]? = some u → w.cell? (ad.add (i * 7 + j)) = some u := hc0
  exact ⟨ad, e, hc 0 _ rfl, by rw [← add_field _ _ 1 (by omega)]; exact hc 1 _ rfl, by rw [← add_field _ _ 2 (by omega)]; exact hc 2 _ rfl, by rw [← add_field _ _ 3 (by omega)]; exact hc 3 _ rfl, by rw [← add_field _ _ 4 (by omega)]; exact hc 4 _ rfl, by rw [← add_field _ _ 5 (by omega)]; exact hc 5 _ rfl, by rw [← add_field _ _ 6 (by omega)]; exact hc 6 _ rfl⟩
theorem Lp_row {w0 w : World} {S0 : Nat → Prop} {F : List HP} {t g n c : Nat} {xs : List Lp} (h : St w0 S0 w (HP.row kLp t (.slice (some ⟨g, 0, none⟩) n c) xs :: F)) (i : Nat) (x : Lp) (hx : xs[i]? = some x) :
    w.cell? ⟨g, i * 7, none⟩ = some (.int .i64 x.l.t.a) ∧ w.cell? ⟨g, i * 7 + 1, none⟩ = some (.int .i64 x.l.t.b) ∧ w.cell? ⟨g, i * 7 + 2, none⟩ = some (.int .i64 x.l.t.c) ∧ w.cell? ⟨g, i * 7 + 3, none⟩ = some (.int .i64 x.l.home) ∧ w.cell? ⟨g, i * 7 + 4, none⟩ = some (.int .i64 x.l.til) ∧ w.cell? ⟨g, i * 7 + 5, none⟩ = some (x.u) ∧ w.cell? ⟨g, i * 7 + 6, none⟩ = some (x.v) := by
  obtain ⟨hi, rfl⟩ := List.getElem?_eq_some_iff.1 hx
  have hf := fun k hk => flat_cell (enc := cLp) Lp_open h i hi k hk
  exact ⟨hf 0 (show 0 < 7 by decide), hf 1 (show 1 < 7 by decide), hf 2 (show 2 < 7 by decide), hf 3 (show 3 < 7 by decide), hf 4 (show 4 < 7 by decide), hf 5 (show 5 < 7 by decide), hf 6 (show 6 < 7 by decide)⟩
theorem Lp_reps1 {w : World} {b : Nat} {ok : Nat → Prop} (x : Lp) (hu : x.u.oneCell' = true) (hv : x.v.oneCell' = true) : Reps (kLp.M w b ok) 7 [x] (cLp x) := reps1_ (Lp_mk w b ok x hu hv) rfl
def kRp : Kd Rp := Kd.iso (Kd.pair Kd.string (Kd.pair Kd.string kV)) (fun x => (x.r.sp.a, x.r.sp.b, x.v))
abbrev cRp (x : Rp) : List Value := [.string x.r.sp.a, .string x.r.sp.b, x.v]
theorem Rp_open {w : World} {x : Rp} {cs : List Value} (h : kRp.K w x cs) : cs = cRp x := by
  obtain ⟨_, _, rfl, rfl, ⟨_, _, rfl, rfl, hq⟩⟩ := h
  rw [kV_open hq]
  rfl
theorem Rp_mk (w : World) (b : Nat) (ok : Nat → Prop) (x : Rp) (hv : x.v.oneCell' = true) : kRp.M w b ok x (cRp x) := ⟨[.string x.r.sp.a], [.string x.r.sp.b, x.v], rfl, rfl, ⟨[.string x.r.sp.b], [x.v], rfl, rfl, kV_mk hv⟩⟩
theorem Rp_info : (Try.prog.info? 55).map (fun i => (i.zero, i.size, i.bytes)) = some (some (.agg #[.string ⟨#[]⟩, .string ⟨#[]⟩, .slice none 0 0]), 3, 56) := by kernel_rfl
theorem Rp_flat : Flat kRp := fun _ _ _ _ h => h
theorem Rp_at {w : World} {A : Option Addr} {n : Nat} {xs : List Rp} (h : Kd.C kRp w A n xs) (i : Nat) (x : Rp) (hx : xs[i]? = some x) :
    ∃ ad, A = some ad ∧ w.cell? (ad.add (i * 3)) = some (.string x.r.sp.a) ∧ w.cell? ⟨(ad.add (i * 3)).block, (ad.add (i * 3)).off + 1, none⟩ = some (.string x.r.sp.b) ∧ w.cell? ⟨(ad.add (i * 3)).block, (ad.add (i * 3)).off + 2, none⟩ = some (x.v) := by
  obtain ⟨ad, e, hc0⟩ := C_at (enc := cRp) Rp_open h i x hx
  have hc : ∀ j u, (cRp x)[j]? = some u → w.cell? (ad.add (i * 3 + j)) = some u := hc0
  exact ⟨ad, e, hc 0 _ rfl, by rw [← add_field _ _ 1 (by omega)]; exact hc 1 _ rfl, by rw [← add_field _ _ 2 (by omega)]; exact hc 2 _ rfl⟩
theorem Rp_row {w0 w : World} {S0 : Nat → Prop} {F : List HP} {t g n c : Nat} {xs : List Rp} (h : St w0 S0 w (HP.row kRp t (.slice (some ⟨g, 0, none⟩) n c) xs :: F)) (i : Nat) (x : Rp) (hx : xs[i]? = some x) :
    w.cell? ⟨g, i * 3, none⟩ = some (.string x.r.sp.a) ∧ w.cell? ⟨g, i * 3 + 1, none⟩ = some (.string x.r.sp.b) ∧ w.cell? ⟨g, i * 3 + 2, none⟩ = some (x.v) := by
  obtain ⟨hi, rfl⟩ := List.getElem?_eq_some_iff.1 hx
  have hf := fun k hk => flat_cell (enc := cRp) Rp_open h i hi k hk
  exact ⟨hf 0 (show 0 < 3 by decide), hf 1 (show 1 < 3 by decide), hf 2 (show 2 < 3 by decide)⟩
theorem Rp_reps1 {w : World} {b : Nat} {ok : Nat → Prop} (x : Rp) (hv : x.v.oneCell' = true) : Reps (kRp.M w b ok) 3 [x] (cRp x) := reps1_ (Rp_mk w b ok x hv) rfl
/-- A lock's lists, read. -/
def Held (p : Lp) (w : World) : Prop := ∃ A1 c1 A2 c2, p.u = .slice A1 p.l.sps.length c1 ∧ p.l.sps.length ≤ c1 ∧ Kd.C kSp w A1 p.l.sps.length p.l.sps ∧ p.v = .slice A2 p.l.wrs.length c2 ∧ p.l.wrs.length ≤ c2 ∧ Kd.C kWr w A2 p.l.wrs.length p.l.wrs
/-- X bears the lists of all these locks. -/
def Sup (X : HP) (ps : List Lp) : Prop := ∀ w S, X.h w S → ∀ p ∈ ps, Held p w
theorem all_at : ∀ {F : List HP} {w : World} {S : Nat → Prop} (h : (Sl.all F).h w S) (i : Nat) (A : HP) (hi : F[i]? = some A), ∃ S', A.h w S'
  | [], _, _, _, i, A, hi => by simp at hi
  | B :: F, w, S, h, 0, A, hi => by
    obtain ⟨S1, S2, a, _⟩ := h
    simp only [List.getElem?_cons_zero, Option.some.injEq] at hi
    subst hi
    exact ⟨S1, a⟩
  | B :: F, w, S, h, i + 1, A, hi => by
    obtain ⟨S1, S2, _, b, _⟩ := h
    exact all_at b i A (by simpa using hi)
theorem sup_at {X : HP} {ps : List Lp} (h : Sup X ps) {F : List HP} {w : World} {S : Nat → Prop} (hF : (Sl.all F).h w S) (i : Nat) (hi : F[i]? = some X) {p : Lp} (hp : p ∈ ps) : Held p w := by
  obtain ⟨S', hX⟩ := all_at hF i X hi
  exact h w S' hX p hp
/-- A row of the frame's, read. -/
theorem row_at {α : Type} {d : Kd α} {e : TypeId} {A : Option Addr} {n c : Nat} {xs : List α} {F : List HP} {w : World} {S : Nat → Prop} (hF : (Sl.all F).h w S) (i : Nat) (hi : F[i]? = some (HP.row d e (.slice A n c) xs)) : Kd.C d w A xs.length xs := by
  obtain ⟨S', hX⟩ := all_at hF i _ hi
  exact (Kd.R_reads' hX).2.2
def ekT (t : Td) : Value := .agg #[.int .i64 t.a, .int .i64 t.b, .int .i64 t.c]
def evI (i : Int) : Value := .int .i64 i
def evB (b : Bool) : Value := .bool b
def rsV (r : Rs) : Value := .agg #[.int .i64 r.err, .int .i64 r.ts, .int .i64 r.t.a, .int .i64 r.t.b, .int .i64 r.t.c, .int .i64 r.ver, .int .i64 r.til, .int .i64 r.job, .bool r.new]
theorem ekT_inj (a b : Td) (h : ekT a = ekT b) : a = b := by
  obtain ⟨a1, a2, a3⟩ := a
  obtain ⟨b1, b2, b3⟩ := b
  simp only [ekT, Value.agg.injEq, Array.mk.injEq, List.cons.injEq, Value.int.injEq, true_and, and_true] at h
  obtain ⟨rfl, rfl, rfl⟩ := h
  rfl
theorem tid_eq (w : World) (a b : Td) : (Op.equal 26 (ekT a) (ekT b)).run Try.prog w = .ok (decide (a = b)) w := by
  obtain ⟨a1, a2, a3⟩ := a
  obtain ⟨b1, b2, b3⟩ := b
  have hi := Try.underlying3
  have hf : Try.prog.underlying 26 = some (.struct (Try.prog.fieldsOf 26)) := by kernel_rfl
  have hs : Try.prog.stoodInHeld 26 = false := by kernel_rfl
  have hl : (Try.prog.fieldsOf 26).toList = [{ name := "Node", type := 3, offset := 0, embedded := false, tag := "", pkgPath := "", byteOffset := 0 }, { name := "Boot", type := 3, offset := 1, embedded := false, tag := "", pkgPath := "", byteOffset := 8 }, { name := "Seq", type := 3, offset := 2, embedded := false, tag := "", pkgPath := "", byteOffset := 16 }] := by kernel_rfl
  have e1 : ∀ (d : Nat) (x y : Int) (w : World), (Op.equalIn (d + 1) 3 (.int .i64 x) (.int .i64 y)).run Try.prog w = .ok (x == y) w := fun d x y w => run_equalIn_int w d 3 .i64 .i64 x y hi
  have hq : ((⟨a1, a2, a3⟩ : Td) = ⟨b1, b2, b3⟩) ↔ (a1 = b1 ∧ a2 = b2 ∧ a3 = b3) := by simp
  unfold ekT Op.equal
  rw [show Op.maxDepth = 9998 + 1 + 1 from rfl]
  generalize 9998 = d
  rw [run_equalIn_agg w (d + 1) 26 _ _ hf hs, hl]
  by_cases h1 : a1 = b1 <;> by_cases h2 : a2 = b2 <;> by_cases h3 : a3 = b3 <;> first | (simp [Op.eqFields, Sem.run_bind, Result.andThen, e1, hq, h1, h2, h3, go_sem]; done) | skip
/-- Names as a map's keys. -/
theorem tid_kk : KK Try.prog 26 ekT where
  check := fun w e k => by
    have hi := Try.underlying3
    have hf : Try.prog.underlying 26 = some (.struct (Try.prog.fieldsOf 26)) := by kernel_rfl
    have hl : (Try.prog.fieldsOf 26).toList = [{ name := "Node", type := 3, offset := 0, embedded := false, tag := "", pkgPath := "", byteOffset := 0 }, { name := "Boot", type := 3, offset := 1, embedded := false, tag := "", pkgPath := "", byteOffset := 8 }, { name := "Seq", type := 3, offset := 2, embedded := false, tag := "", pkgPath := "", byteOffset := 16 }] := by kernel_rfl
    have e1 : ∀ (d : Nat) (x : Int) (w : World), (Instr.checkKey e (d + 1) 3 (.int .i64 x)).run Try.prog w = .ok () w := fun d x w => by
      unfold Instr.checkKey
      simp only [Sem.run_bind, run_underlying hi, Result.andThen]
      rfl
    rw [show (10000 : Nat) = 9998 + 1 + 1 from rfl]
    generalize 9998 = d
    unfold ekT
    rw [Instr.checkKey]
    simp only [Sem.run_bind, run_underlying hf, Result.andThen]
    rw [← Array.forIn_toList, hl]
    simp [Sem.run_bind, Result.andThen, e1, go_sem]
  eq := tid_eq
  und := ⟨_, Try.underlying26, fun a b => rfl⟩
  bits := fun k => by
    unfold ekT
    rw [show (10000 : Nat) = 9999 + 1 from rfl]
    generalize 9999 = d
    simp [Instr.sameBits]
  inj := ekT_inj
end Go.Proofs.Ytphenpncdhgdhaa.Shd
