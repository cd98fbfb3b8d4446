/- The shard, plain: what its commands do. -/
import Derived.Test.YtphenpncdhgdhaaKeptP
namespace Go.Proofs.Ytphenpncdhgdhaa.Shd
open Go.Proofs.Ytphenpncdhgdhaa.Str Go.Proofs.Ytphenpncdhgdhaa.Ver Go.Proofs.Ytphenpncdhgdhaa.Sl
set_option linter.unusedVariables false
set_option linter.unusedSimpArgs false
/-- A transaction's name. -/
structure Td where
  a : Int
  b : Int
  c : Int
  deriving DecidableEq
structure Wr where
  key : ByteArray
  val : ByteArray
  dead : Bool
structure Sp where
  a : ByteArray
  b : ByteArray
structure Sg where
  key : ByteArray
  ts : Int
  deriving DecidableEq
structure Rd where
  sp : Sp
  seen : List Sg
structure Lk where
  t : Td
  home : Int
  til : Int
  sps : List Sp
  wrs : List Wr
structure Rc where
  t : Td
  ts : Int
/-- A result. -/
structure Rs where
  err : Int
  ts : Int
  t : Td
  ver : Int
  til : Int
  job : Int
  new : Bool
  deriving DecidableEq
def t0 : Td := ⟨0, 0, 0⟩
def rs0 : Rs := ⟨0, 0, t0, 0, 0, 0, false⟩
/-- What of a command a shard asks. -/
structure Cm where
  kind : Int
  t : Td
  home : Int
  rds : List Rd
  wrs : List Wr
  mn : Int
  til : Int
  ts : Int
structure Sh where
  rows : List Rw
  lks : List Lk
  rcs : List Rc
  ov : List Td
  high : Int
def ever : Int := 9223372036854775807
def lkN (l : List Lk) (t : Td) : Nat := (l.takeWhile (fun x => !decide (x.t = t))).length
def hasLk (l : List Lk) (t : Td) : Bool := decide (lkN l t < l.length)
def lkI (l : List Lk) (t : Td) : Int := if hasLk l t then lkN l t else -1
def recOf (l : List Rc) (t : Td) : Option Int := (l.find? (fun r => decide (r.t = t))).map (·.ts)
/-- Where a record stands. -/
def recN (l : List Rc) (t : Td) : Nat := (l.takeWhile (fun x => !decide (x.t = t))).length
def fnd (l : List Rc) : List (Td × Int) := l.zipIdx.map (fun p => (p.1.t, (p.2 : Int)))
def gon (l : List Td) : List (Td × Bool) := l.map (fun t => (t, true))
def busyR (l : Lk) : Rs := { rs0 with err := 131, t := l.t, til := l.til }
def hitsIn (r : Rd) (l : Lk) : Bool := l.wrs.any (fun w => inside w.key r.sp.a r.sp.b)
def meets (w : Wr) (l : Lk) : Bool := l.wrs.any (fun x => decide (x.key = w.key)) || l.sps.any (fun p => inside w.key p.a p.b)
def stampOf (h : Ht) : Sg := ⟨h.key, h.ts⟩
def readP (rows : List Rw) (lks : List Lk) (r : Rd) : Rs := match lks.find? (hitsIn r) with
  | some l => busyR l
  | none => if (span rows r.sp.a r.sp.b ever).map stampOf = r.seen then rs0 else { rs0 with err := 130 }
def writeP (lks : List Lk) (w : Wr) : Rs := match lks.find? (meets w) with
  | some l => busyR l
  | none => rs0
/-- The first that is refused. -/
def firstR {α : Type} (f : α → Rs) : List α → Rs
  | [] => rs0
  | x :: l => if (f x).err = 0 then firstR f l else f x
def lockOf (c : Cm) : Lk := ⟨c.t, c.home, c.til, c.rds.map (·.sp), c.wrs⟩
def prepP (m : Sh) (c : Cm) : Sh × Rs :=
  if c.t ∈ m.ov then (m, { rs0 with err := 132 })
  else if hasLk m.lks c.t then (m, { rs0 with ts := m.high })
  else if (firstR (readP m.rows m.lks) c.rds).err = 0 then
    if (firstR (writeP m.lks) c.wrs).err = 0 then ({ m with lks := m.lks ++ [lockOf c] }, { rs0 with ts := m.high, new := true })
    else (m, firstR (writeP m.lks) c.wrs)
  else (m, firstR (readP m.rows m.lks) c.rds)
def noteP (m : Sh) (t : Td) (ts : Int) : Sh := { m with rcs := m.rcs ++ [⟨t, ts⟩] }
def endP (m : Sh) (t : Td) : Sh := { m with ov := m.ov ++ [t] }
def comTs (at_ : Int) (c : Cm) : Int := max (max c.mn at_) 1
def commitP (m : Sh) (at_ : Int) (c : Cm) : Sh × Rs := match recOf m.rcs c.t with
  | some ts => (m, if ts = 0 then { rs0 with err := 132 } else { rs0 with ts := ts })
  | none => if c.til < comTs at_ c then (noteP m c.t 0, { rs0 with err := 133, new := true }) else (noteP m c.t (comTs at_ c), { rs0 with ts := comTs at_ c, new := true })
def abortP (m : Sh) (c : Cm) : Sh × Rs := match recOf m.rcs c.t with
  | some ts => (m, if 0 < ts then { rs0 with err := 132, ts := ts } else rs0)
  | none => (noteP m c.t 0, { rs0 with new := true })
def putW (ts : Int) (rows : List Rw) (ws : List Wr) : List Rw := if 0 < ts then ws.foldl (fun r w => put r w.key ⟨ts, w.val, w.dead⟩) rows else rows
def resRows (m : Sh) (c : Cm) : List Rw := match m.lks[lkN m.lks c.t]? with
  | some l => putW c.ts m.rows l.wrs
  | none => m.rows
def resolveP (m : Sh) (c : Cm) : Sh × Rs :=
  if c.t ∈ m.ov then (m, rs0)
  else (⟨resRows m c, m.lks.eraseIdx (lkN m.lks c.t), m.rcs, m.ov ++ [c.t], max m.high c.ts⟩, { rs0 with new := true })
def doP (m : Sh) (at_ : Int) (c : Cm) : Sh × Rs :=
  if c.kind = 1 then prepP m c else if c.kind = 2 then commitP m at_ c else if c.kind = 3 then abortP m c else if c.kind = 4 then resolveP m c else (m, { rs0 with err := 1 })
def sh0 : Sh := ⟨[], [], [], [], 0⟩
/-! ### what stays so -/
def tv (rows : List Rw) : Nat := (rows.map (fun r => r.vs.length)).sum
def lw (lks : List Lk) : Nat := (lks.map (fun l => l.wrs.length)).sum
def Ups (rows : List Rw) : Prop := ∀ r ∈ rows, r.vs.Pairwise (fun v w => v.ts < w.ts)
/-- A shard that is right, and not too great. -/
structure Fit (m : Sh) (n : Nat) : Prop where
  rises : Rises m.rows
  full : Full m.rows
  ups : Ups m.rows
  pot : tv m.rows + lw m.lks ≤ n
  lks : m.lks.length ≤ n
  each : ∀ l ∈ m.lks, l.sps.length ≤ n
  rcs : m.rcs.length ≤ n
  ov : m.ov.length ≤ n
  kr : ∀ r ∈ m.rows, r.key.size ≤ 140737488351232
  kw : ∀ l ∈ m.lks, ∀ w ∈ l.wrs, w.key.size ≤ 140737488351232
  lkd : (m.lks.map (·.t)).Nodup
  rcd : (m.rcs.map (·.t)).Nodup
  ovd : m.ov.Nodup
  rc0 : ∀ r ∈ m.rcs, 0 ≤ r.ts
  high : 0 ≤ m.high
/-- How much a command holds. -/
def wt (c : Cm) : Nat := 1 + c.wrs.length + c.rds.length
theorem fit0 : Fit sh0 0 := ⟨List.Pairwise.nil, fun r h => by simp [sh0] at h, fun r h => by simp [sh0] at h, by simp [sh0, tv, lw], by simp [sh0], fun r h => by simp [sh0] at h, by simp [sh0], by simp [sh0], fun r h => by simp [sh0] at h, fun r h => by simp [sh0] at h, by simp [sh0], by simp [sh0], by simp [sh0], fun r h => by simp [sh0] at h, by simp [sh0]⟩
theorem Fit.mono {m : Sh} {n k : Nat} (h : Fit m n) (hk : n ≤ k) : Fit m k :=
  ⟨h.rises, h.full, h.ups, Nat.le_trans h.pot hk, Nat.le_trans h.lks hk, fun l hl => Nat.le_trans (h.each l hl) hk, Nat.le_trans h.rcs hk, Nat.le_trans h.ov hk, h.kr, h.kw, h.lkd, h.rcd, h.ovd, h.rc0, h.high⟩
theorem len_tv {rows : List Rw} (hf : Full rows) : rows.length ≤ tv rows := by
  induction rows with
  | nil => simp [tv]
  | cons r rows ih =>
    have h1 := ih (fun q hq => hf q (.tail _ hq))
    have h2 := (hf r (.head _)).1
    have h3 : 0 < r.vs.length := by
      cases hv : r.vs with
      | nil => exact absurd hv h2
      | cons => simp
    simp only [tv, List.map_cons, List.sum_cons, List.length_cons] at h1 ⊢
    omega
theorem vs_tv {rows : List Rw} {r : Rw} (h : r ∈ rows) : r.vs.length ≤ tv rows := by
  induction rows with
  | nil => simp at h
  | cons q rows ih =>
    simp only [tv, List.map_cons, List.sum_cons]
    cases h with
    | head => omega
    | tail _ h =>
      have := ih h
      simp only [tv] at this
      omega
theorem Fit.kept {m : Sh} {n : Nat} (h : Fit m n) : Kept m.rows n :=
  ⟨h.rises, h.full, Nat.le_trans (len_tv h.full) (by have := h.pot; omega), fun r hr => ⟨Nat.le_trans (vs_tv hr) (by have := h.pot; omega), h.kr r hr⟩⟩
theorem tv_app (A B : List Rw) : tv (A ++ B) = tv A + tv B := by simp [tv]
theorem tv_put (rows : List Rw) (hr : Rises rows) (k : ByteArray) (v : Vn) : tv (put rows k v) ≤ tv rows + 1 := by
  unfold put
  split
  · cases ht : there rows k with
    | false =>
      rw [putRows_new rows k v ht]
      have h1 : tv rows = tv (rows.take (lb rows k)) + tv (rows.drop (lb rows k)) := by rw [← tv_app, List.take_append_drop]
      rw [tv_app, h1]
      simp only [tv, List.map_cons, List.sum_cons, List.length_singleton]
      omega
    | true =>
      obtain ⟨A, B, vs, e, hl, _, _⟩ := there_split rows hr k ht
      rw [putRows_there rows k v ht e hl]
      conv => rhs; rw [e]
      rw [tv_app, tv_app]
      simp only [tv, List.map_cons, List.sum_cons, List.length_append, List.length_singleton]
      omega
  · omega
end Go.Proofs.Ytphenpncdhgdhaa.Shd
