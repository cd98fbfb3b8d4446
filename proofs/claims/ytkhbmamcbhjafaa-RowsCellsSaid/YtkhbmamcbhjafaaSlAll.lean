/- Joined of: Sl SlStep SlRaw SlOps. -/
import Derived.Test.YtkhbmamcbhjafaaWWords
import Derived.Test.YtkhbmamcbhjafaaWKept
import Derived.Test.YtkhbmamcbhjafaaWShare
import Derived.Test.YtkhbmamcbhjafaaWMore
import Derived.MapKept
import Derived.Laws.IdiomRangeMap
import Derived.Carry
section
/- A small separation logic over blocks of memory: assertions with a footprint, what a call keeps, contracts of functions. -/
namespace Go.Proofs.Ytkhbmamcbhjafaa.Sl
open Go.RowKit Go.Proofs.YtkhbmamcbhjafaaW.PrintWords Go.Proofs.YtkhbmamcbhjafaaW.PrintLast Go.Proofs.YtkhbmamcbhjafaaW.PrintMore
set_option linter.unusedVariables false
set_option linter.unusedSimpArgs false

/-- What is so from a world to a later one: nothing elder is turned but the blocks of S. -/
structure Ext (w w' : World) (S : Nat → Prop) : Prop where
  os : w'.os = w.os
  tape : w'.tape = w.tape
  output : w'.output = w.output
  size : w.heap.size ≤ w'.heap.size
  block : ∀ i, i < w.heap.size → ¬ S i → w'.heap[i]? = w.heap[i]?

namespace Ext
theorem refl (w : World) (S : Nat → Prop) : Ext w w S := ⟨rfl, rfl, rfl, Nat.le_refl _, fun _ _ _ => rfl⟩
theorem mono {w w' : World} {S S' : Nat → Prop} (h : Ext w w' S) (hs : ∀ k, S k → S' k) : Ext w w' S' :=
  ⟨h.os, h.tape, h.output, h.size, fun i hi hn => h.block i hi (fun hk => hn (hs i hk))⟩
theorem trans {a b c : World} {S S1 : Nat → Prop} (h : Ext a b S) (k : Ext b c S1) (hs : ∀ k, S1 k → S k ∨ a.heap.size ≤ k) : Ext a c S :=
  ⟨k.os.trans h.os, k.tape.trans h.tape, k.output.trans h.output, Nat.le_trans h.size k.size, fun i hi hn =>
    (k.block i (Nat.lt_of_lt_of_le hi h.size) (fun h1 => (hs i h1).elim hn (fun h2 => by omega))).trans (h.block i hi hn)⟩
theorem below {w w' : World} (h : Ext w w' (fun _ => False)) : Below w.heap.size w w' := ⟨h.os, h.tape, h.output, h.size, fun k hk => h.block k hk (fun f => f)⟩
theorem of_below {w w' : World} (h : Below w.heap.size w w') (S : Nat → Prop) : Ext w w' S := ⟨h.os, h.tape, h.output, h.size, fun k hk _ => h.block k hk⟩
theorem of_grown {w w' : World} {row : Option Nat} (h : w.grownBy w' row) {S : Nat → Prop} (hs : ∀ k, row = some k → S k) : Ext w w' S :=
  ⟨h.os, h.tape, h.output, h.size, fun k hk hn => h.block k hk (fun e => hn (hs k e.symm))⟩
theorem alloc (w : World) (o : Obj) (S : Nat → Prop) : Ext w (w.alloc o) S := of_below (below_alloc (Below.refl _ _) o) S
theorem drew (w : World) (S : Nat → Prop) : Ext w w.drew S := ⟨rfl, rfl, rfl, Nat.le_refl _, fun _ _ _ => rfl⟩
theorem drewN (w : World) (n : Nat) (S : Nat → Prop) : Ext w (w.drewN n) S := ⟨rfl, rfl, rfl, Nat.le_refl _, fun _ _ _ => rfl⟩
theorem setCell (w : World) (p : Addr) (v : Value) {S : Nat → Prop} (hs : S p.block) : Ext w (w.setCell p v) S :=
  ⟨rfl, rfl, rfl, by simp [World.setCell], fun i _ hn => Below.heap_setCell w p v i (fun e => hn (by rw [e]; exact hs))⟩
theorem cell {w w' : World} {S : Nat → Prop} (h : Ext w w' S) {a : Addr} {v : Value} (hc : w.cell? a = some v) (hn : ¬ S a.block) : w'.cell? a = some v := by
  have := h.block a.block (World.block_lt_of_cell? w a hc) hn
  simpa [World.cell?, this] using hc
end Ext

/-- An assertion: what holds of a world's blocks S (or more). -/
structure HP where
  h : World → (Nat → Prop) → Prop
  mono : ∀ {w S S'}, h w S → (∀ k, S k → S' k) → h w S'
  step : ∀ {w w' : World} {S}, h w S → (∀ k, S k → k < w.heap.size → w'.heap[k]? = w.heap[k]?) → h w' S
  bound : ∀ {w : World} {S}, h w S → h w (fun k => S k ∧ k < w.heap.size)

namespace HP
def pure (p : Prop) : HP := ⟨fun _ _ => p, fun h _ => h, fun h _ => h, fun h => h⟩
def emp : HP := pure True
def ex {α : Type} (f : α → HP) : HP := ⟨fun w S => ∃ x, (f x).h w S, fun ⟨x, h⟩ hs => ⟨x, (f x).mono h hs⟩, fun ⟨x, h⟩ hs => ⟨x, (f x).step h hs⟩, fun ⟨x, h⟩ => ⟨x, (f x).bound h⟩⟩
def and (p : Prop) (A : HP) : HP := ⟨fun w S => p ∧ A.h w S, fun ⟨x, h⟩ hs => ⟨x, A.mono h hs⟩, fun ⟨x, h⟩ hs => ⟨x, A.step h hs⟩, fun ⟨x, h⟩ => ⟨x, A.bound h⟩⟩
def star (A B : HP) : HP where
  h := fun w S => ∃ S1 S2, A.h w S1 ∧ B.h w S2 ∧ (∀ k, S1 k → S2 k → False) ∧ (∀ k, S1 k → S k) ∧ (∀ k, S2 k → S k)
  mono := fun ⟨S1, S2, a, b, d, s1, s2⟩ hs => ⟨S1, S2, a, b, d, fun k h => hs k (s1 k h), fun k h => hs k (s2 k h)⟩
  step := fun ⟨S1, S2, a, b, d, s1, s2⟩ hs => ⟨S1, S2, A.step a (fun k h => hs k (s1 k h)), B.step b (fun k h => hs k (s2 k h)), d, s1, s2⟩
  bound := fun ⟨S1, S2, a, b, d, s1, s2⟩ => ⟨_, _, A.bound a, B.bound b, fun k h1 h2 => d k h1.1 h2.1, fun k h => ⟨s1 k h.1, h.2⟩, fun k h => ⟨s2 k h.1, h.2⟩⟩
/-- A block of the assertion's own. -/
def own (g : Nat) (o : Obj) : HP where
  h := fun w S => w.heap[g]? = some o ∧ S g
  mono := fun ⟨h, s⟩ hs => ⟨h, hs _ s⟩
  step := fun ⟨h, s⟩ hs => ⟨(hs _ s (blk_lt h)).trans h, s⟩
  bound := fun ⟨h, s⟩ => ⟨h, s, blk_lt h⟩
/-- A struct's (or variable's) block: its cells. -/
def obj (g : Nat) (t : TypeId) (cs : List Value) : HP := own g (.cells cs.toArray t (0, 0))
/-- A row of the assertion's own: a slice that nobody else holds. -/
def row {α : Type} (d : Kd α) (e : TypeId) (v : Value) (xs : List α) : HP where
  h := fun w S => d.R e w 0 S v xs
  mono := fun h hs => Kd.R_mono h hs
  step := fun h hs => Kd.R_step h hs
  bound := fun h => Kd.R_mono (Kd.R_bound h) (fun k hk => ⟨hk.1, hk.2.2.1⟩)
/-- An element's cells, with what they own. -/
def cells {α : Type} (d : Kd α) (x : α) (cs : List Value) : HP where
  h := fun w S => d.M w 0 S x cs
  mono := fun h hs => d.M_mono hs h
  step := fun h hs => Kd.M_step h hs
  bound := fun h => d.M_mono (fun k hk => ⟨hk.1, hk.2.2.1⟩) (d.M_bound h)
end HP
open HP
/-- All of them, each of blocks of its own. -/
def all : List HP → HP
  | [] => emp
  | A :: L => star A (all L)

/-- A gives B. -/
def Gives (A B : HP) : Prop := ∀ w S, A.h w S → B.h w S
namespace Gives
theorem refl (A : HP) : Gives A A := fun _ _ h => h
theorem trans {A B C : HP} (h : Gives A B) (k : Gives B C) : Gives A C := fun w S a => k w S (h w S a)
theorem star {A A' B B' : HP} (h : Gives A A') (k : Gives B B') : Gives (HP.star A B) (HP.star A' B') := fun w S ⟨S1, S2, a, b, r⟩ => ⟨S1, S2, h w S1 a, k w S2 b, r⟩
theorem comm (A B : HP) : Gives (HP.star A B) (HP.star B A) := fun w S ⟨S1, S2, a, b, d, s1, s2⟩ => ⟨S2, S1, b, a, fun k h1 h2 => d k h2 h1, s2, s1⟩
theorem assoc (A B C : HP) : Gives (HP.star (HP.star A B) C) (HP.star A (HP.star B C)) := by
  rintro w S ⟨S12, S3, ⟨S1, S2, a, b, d, s1, s2⟩, c, d', t1, t2⟩
  exact ⟨S1, fun k => S2 k ∨ S3 k, a, ⟨S2, S3, b, c, fun k h2 h3 => d' k (s2 k h2) h3, fun k h => .inl h, fun k h => .inr h⟩, fun k h1 h => h.elim (d k h1) (d' k (s1 k h1)),
    fun k h => t1 k (s1 k h), fun k h => h.elim (fun h => t1 k (s2 k h)) (t2 k)⟩
theorem assoc' (A B C : HP) : Gives (HP.star A (HP.star B C)) (HP.star (HP.star A B) C) := by
  rintro w S ⟨S1, S23, a, ⟨S2, S3, b, c, d, s2, s3⟩, d', t1, t2⟩
  exact ⟨fun k => S1 k ∨ S2 k, S3, ⟨S1, S2, a, b, fun k h1 h2 => d' k h1 (s2 k h2), fun k h => .inl h, fun k h => .inr h⟩, c, fun k h h3 => h.elim (fun h1 => d' k h1 (s3 k h3)) (fun h2 => d k h2 h3),
    fun k h => h.elim (t1 k) (fun h => t2 k (s2 k h)), fun k h => t2 k (s3 k h)⟩
theorem swap (A B C : HP) : Gives (HP.star A (HP.star B C)) (HP.star B (HP.star A C)) := ((assoc' A B C).trans ((comm A B).star (refl C))).trans (assoc B A C)
theorem drop (A B : HP) : Gives (HP.star A B) B := fun w S ⟨S1, S2, a, b, d, s1, s2⟩ => B.mono b s2
theorem left (A B : HP) : Gives (HP.star A B) A := fun w S ⟨S1, S2, a, b, d, s1, s2⟩ => A.mono a s1
theorem emp_intro (A : HP) : Gives A (HP.star A emp) := fun w S a => ⟨S, fun _ => False, a, trivial, fun _ _ f => f, fun _ h => h, fun _ f => f.elim⟩
theorem emp_left (A : HP) : Gives A (HP.star emp A) := fun w S a => ⟨fun _ => False, S, trivial, a, fun _ f _ => f, fun _ f => f.elim, fun _ h => h⟩
theorem to_emp (A : HP) : Gives A emp := fun _ _ _ => trivial
theorem ex_intro {α : Type} {f : α → HP} (x : α) : Gives (f x) (ex f) := fun w S h => ⟨x, h⟩
theorem and_intro {p : Prop} {A : HP} (hp : p) : Gives A (HP.and p A) := fun w S h => ⟨hp, h⟩
theorem nil_row {α : Type} (d : Kd α) (e : TypeId) : Gives emp (row d e (.slice none 0 0) []) := fun w S _ => Kd.R_nil _ _ _ _ _
theorem row_cells {α : Type} {d : Kd α} {e : TypeId} {v : Value} {xs : List α} : Gives (row d e v xs) (cells (Kd.slice e d) xs [v]) := fun w S h => ⟨v, rfl, h⟩
/-- All of a list's, its element number i first. -/
theorem all_app : ∀ L M : List HP, Gives (all (L ++ M)) (HP.star (all L) (all M))
  | [], M => emp_left _
  | A :: L, M => ((refl A).star (all_app L M)).trans (assoc' _ _ _)
theorem app_all : ∀ L M : List HP, Gives (HP.star (all L) (all M)) (all (L ++ M))
  | [], M => drop _ _
  | A :: L, M => (assoc _ _ _).trans ((refl A).star (app_all L M))
end Gives

/-- Element number i of a list to its head. -/
def mv (L : List HP) : Nat → List HP
  | 0 => L
  | i + 1 => match L with
    | [] => []
    | A :: L => match mv L i with
      | [] => [A]
      | B :: M => B :: A :: M
/-- Element number i of a list left out. -/
def out (L : List HP) : Nat → List HP
  | 0 => L.tail
  | i + 1 => match L with
    | [] => []
    | A :: L => A :: out L i
theorem Gives.mv_ : ∀ (i : Nat) (L : List HP), Gives (all L) (all (mv L i))
  | 0, L => by
    unfold mv
    exact refl _
  | i + 1, [] => refl _
  | i + 1, A :: L => by
    have h := (refl A).star (mv_ i L)
    show Gives (HP.star A (all L)) (all (match mv L i with | [] => [A] | B :: M => B :: A :: M))
    cases e : mv L i with
    | nil => exact (refl A).star (to_emp _)
    | cons B M =>
      rw [e] at h
      exact h.trans (swap _ _ _)
theorem Gives.out_ : ∀ (i : Nat) (L : List HP), Gives (all L) (all (out L i))
  | 0, [] => refl _
  | 0, A :: L => drop _ _
  | i + 1, [] => refl _
  | i + 1, A :: L => (refl A).star (out_ i L)

/-- The state of a walk: since w0 nothing elder has been turned but S0's blocks; now all of L holds, of S0's blocks and newer ones. -/
structure St (w0 : World) (S0 : Nat → Prop) (w : World) (L : List HP) : Prop where
  ext : Ext w0 w S0
  holds : ∃ S, (all L).h w S ∧ ∀ k, S k → S0 k ∨ w0.heap.size ≤ k

namespace St
variable {w0 w w' : World} {S0 : Nat → Prop} {A B : HP} {F L M : List HP}
theorem start {S : Nat → Prop} (h : (all L).h w S) : St w S w L := ⟨Ext.refl _ _, S, h, fun k hk => .inl hk⟩
theorem start0 (w : World) : St w (fun _ => False) w [] := ⟨Ext.refl _ _, fun _ => False, trivial, fun k hk => hk.elim⟩
theorem conv (h : St w0 S0 w L) (hg : Gives (all L) (all M)) : St w0 S0 w M := ⟨h.ext, let ⟨S, a, s⟩ := h.holds; ⟨S, hg _ _ a, s⟩⟩
theorem mv (h : St w0 S0 w L) (i : Nat) : St w0 S0 w (Sl.mv L i) := h.conv (Gives.mv_ i L)
theorem out (h : St w0 S0 w L) (i : Nat) : St w0 S0 w (Sl.out L i) := h.conv (Gives.out_ i L)
theorem head (h : St w0 S0 w (A :: F)) (hg : Gives A B) : St w0 S0 w (B :: F) := h.conv (hg.star (Gives.refl _))
theorem drop (h : St w0 S0 w (A :: F)) : St w0 S0 w F := h.conv (Gives.drop _ _)
theorem later (h : St w0 S0 w L) (hb : Below w.heap.size w w') : St w0 S0 w' L :=
  ⟨h.ext.trans (Ext.of_below hb (fun _ => False)) (fun _ f => f.elim), let ⟨S, a, s⟩ := h.holds; ⟨S, (all L).step a (fun k _ hk => hb.block k hk), s⟩⟩
theorem drew (h : St w0 S0 w L) : St w0 S0 w.drew L := h.later (below_drew (Below.refl _ _))
theorem drewN (h : St w0 S0 w L) (n : Nat) : St w0 S0 (w.drewN n) L := h.later (pw_below_drewN (Below.refl _ _) n)
theorem drawn (h : St w0 S0 w L) (hd : Drawn0 w w') : St w0 S0 w' L := by obtain ⟨n, rfl⟩ := hd; exact h.drewN n
/-- A part has been turned by whatever keeps the rest. -/
theorem join {S1 SF : Nat → Prop} (ext : Ext w0 w S0) (f : (all F).h w SF) (d : ∀ k, S1 k → SF k → False) (s1 : ∀ k, S1 k → S0 k ∨ w0.heap.size ≤ k) (sf : ∀ k, SF k → S0 k ∨ w0.heap.size ≤ k)
    (h : St w S1 w' M) : St w0 S0 w' (M ++ F) := by
  obtain ⟨e, S2, b, t⟩ := h
  refine ⟨ext.trans e s1, fun k => S2 k ∨ (SF k ∧ k < w.heap.size), Gives.app_all _ _ _ _ ⟨S2, fun k => SF k ∧ k < w.heap.size, b, ?_, ?_, fun _ h => .inl h, fun _ h => .inr h⟩, ?_⟩
  · exact (all F).step ((all F).bound f) (fun k hk hlt => e.block k hlt (fun h1 => d k h1 hk.1))
  · intro k h1 h2
    rcases t k h1 with h3 | h3
    · exact d k h3 h2.1
    · omega
  · rintro k (h1 | h1)
    · rcases t k h1 with h3 | h3
      · exact s1 k h3
      · exact .inr (Nat.le_trans ext.size h3)
    · exact sf k h1.1
/-- The list's first part is turned: the rest stays. -/
theorem turn (h : St w0 S0 w (L ++ F)) (hs : ∀ S1, (all L).h w S1 → St w S1 w' M) : St w0 S0 w' (M ++ F) := by
  obtain ⟨ext, S, a, s⟩ := h
  obtain ⟨S1, SF, a, f, d, s1, s2⟩ := Gives.all_app _ _ _ _ a
  exact join ext f d (fun k hk => s k (s1 k hk)) (fun k hk => s k (s2 k hk)) (hs S1 a)
theorem turn1 (h : St w0 S0 w (A :: F)) (hs : ∀ S1, A.h w S1 → ∃ S2, B.h w' S2 ∧ Ext w w' S1 ∧ ∀ k, S2 k → S1 k ∨ w.heap.size ≤ k) : St w0 S0 w' (B :: F) :=
  turn (L := [A]) (M := [B]) h (fun S1 a => by
    obtain ⟨S2, b, e, t⟩ := hs S1 (Gives.left _ _ _ _ a)
    exact ⟨e, S2, Gives.emp_intro _ _ _ b, t⟩)
/-- Something new beside what there is. -/
theorem new_ (h : St w0 S0 w F) (hs : ∃ S2, B.h w' S2 ∧ Ext w w' (fun _ => False) ∧ ∀ k, S2 k → w.heap.size ≤ k) : St w0 S0 w' (B :: F) :=
  turn (L := []) (M := [B]) h (fun S1 _ => by
    obtain ⟨S2, b, e, t⟩ := hs
    exact ⟨e.mono (fun _ f => f.elim), S2, Gives.emp_intro _ _ _ b, fun k hk => .inr (t k hk)⟩)
theorem alloc (h : St w0 S0 w F) (o : Obj) : St w0 S0 (w.alloc o) (own w.heap.size o :: F) :=
  h.new_ ⟨fun k => k = w.heap.size, ⟨blk_new w o, rfl⟩, Ext.alloc w o _, fun k hk => by omega⟩
theorem idle (h : St w0 S0 w F) : St w0 S0 w (emp :: F) := h.conv (Gives.emp_left _)
theorem cells_ {α : Type} {d : Kd α} {x : α} {cs : List Value} (h : St w0 S0 w F) (hm : d.M w 0 (fun _ => False) x cs) : St w0 S0 w (HP.cells d x cs :: F) :=
  h.new_ ⟨fun _ => False, hm, Ext.refl _ _, fun _ f => f.elim⟩
theorem nil_ (h : St w0 S0 w F) {α : Type} (d : Kd α) (e : TypeId) : St w0 S0 w (row d e (.slice none 0 0) [] :: F) := h.idle.head (Gives.nil_row d e)
theorem add {p : Prop} (h : St w0 S0 w F) (hp : p) : St w0 S0 w (HP.pure p :: F) := h.idle.head (fun _ _ _ => hp)
theorem pure_ {p : Prop} (h : St w0 S0 w (HP.pure p :: F)) : p ∧ St w0 S0 w F := ⟨let ⟨S, ⟨S1, S2, a, _⟩, _⟩ := h.holds; a, h.drop⟩
theorem ex_ {α : Type} {f : α → HP} (h : St w0 S0 w (ex f :: F)) : ∃ x, St w0 S0 w (f x :: F) := by
  obtain ⟨e, S, ⟨S1, S2, ⟨x, a⟩, r⟩, s⟩ := h
  exact ⟨x, e, S, ⟨S1, S2, a, r⟩, s⟩
theorem and_ {p : Prop} (h : St w0 S0 w (HP.and p A :: F)) : p ∧ St w0 S0 w (A :: F) := by
  obtain ⟨e, S, ⟨S1, S2, ⟨x, a⟩, r⟩, s⟩ := h
  exact ⟨x, e, S, ⟨S1, S2, a, r⟩, s⟩
theorem star_ (h : St w0 S0 w (star A B :: F)) : St w0 S0 w (A :: B :: F) := h.conv (Gives.assoc _ _ _)
theorem unstar (h : St w0 S0 w (A :: B :: F)) : St w0 S0 w (star A B :: F) := h.conv (Gives.assoc' _ _ _)
theorem all_ (h : St w0 S0 w (Sl.all L :: F)) : St w0 S0 w (L ++ F) := h.conv (Gives.app_all _ _)
theorem unall (h : St w0 S0 w (L ++ F)) : St w0 S0 w (Sl.all L :: F) := h.conv (Gives.all_app _ _)
theorem ex_in {α : Type} {f : α → HP} (x : α) (h : St w0 S0 w (f x :: F)) : St w0 S0 w (ex f :: F) := h.head (Gives.ex_intro x)
theorem and_in {p : Prop} (hp : p) (h : St w0 S0 w (A :: F)) : St w0 S0 w (HP.and p A :: F) := h.head (Gives.and_intro hp)
theorem blk {g : Nat} {o : Obj} (h : St w0 S0 w (own g o :: F)) : w.heap[g]? = some o := let ⟨S, ⟨S1, S2, a, _⟩, _⟩ := h.holds; a.1
theorem blk_in {g : Nat} {o : Obj} (h : St w0 S0 w (own g o :: F)) : S0 g ∨ w0.heap.size ≤ g := let ⟨S, ⟨S1, S2, a, _, _, s1, _⟩, s⟩ := h.holds; s g (s1 g a.2)
theorem cell {g : Nat} {t : TypeId} {cs : List Value} (h : St w0 S0 w (obj g t cs :: F)) (j : Nat) : w.cell? ⟨g, j, none⟩ = cs[j]? := by
  have := h.blk
  simp [World.cell?, this]
theorem unfrozen {g : Nat} {t : TypeId} {cs : List Value} (h : St w0 S0 w (obj g t cs :: F)) (j : Nat) : w.frozen? ⟨g, j, none⟩ = false := by
  have := h.blk
  simp [World.frozen?, this]
theorem set {g : Nat} {t : TypeId} {cs : List Value} (h : St w0 S0 w (obj g t cs :: F)) (j : Nat) (v : Value) : St w0 S0 (w.setCell ⟨g, j, none⟩ v) (obj g t (cs.set j v) :: F) :=
  h.turn1 (fun S1 a => ⟨S1, ⟨by
    have h1 := a.1
    simp [World.setCell, Array.getElem?_modify, h1], a.2⟩, Ext.setCell w _ v a.2, fun k hk => .inl hk⟩)
theorem row_C {α : Type} {d : Kd α} {e : TypeId} {v : Value} {xs : List α} (h : St w0 S0 w (row d e v xs :: F)) : ∃ A c, v = .slice A xs.length c ∧ xs.length ≤ c ∧ d.C w A xs.length xs :=
  let ⟨S, ⟨S1, S2, a, _⟩, _⟩ := h.holds; Kd.R_reads a
theorem row_reads {α : Type} {d : Kd α} {e : TypeId} {A : Option Addr} {n c : Nat} {xs : List α} (h : St w0 S0 w (row d e (.slice A n c) xs :: F)) : n = xs.length ∧ n ≤ c ∧ d.C w A xs.length xs :=
  let ⟨S, ⟨S1, S2, a, _⟩, _⟩ := h.holds; Kd.R_reads' a
/-- What a call has made is beside the rest. -/
theorem made {α : Type} {d : Kd α} {e : TypeId} {v : Value} {xs : List α} {ok : Nat → Prop} (h : St w0 S0 w F) (hr : d.R e w' w.heap.size ok v xs) (hb : Below w.heap.size w w') : St w0 S0 w' (row d e v xs :: F) :=
  h.new_ ⟨fun k => w.heap.size ≤ k, Kd.R_lower (Kd.R_mono (Kd.R_bound hr) (fun k hk => hk.2.1)) (Nat.zero_le _), Ext.of_below hb _, fun k hk => hk⟩
theorem row_form {α : Type} {d : Kd α} {e : TypeId} {v : Value} {xs : List α} (h : St w0 S0 w (row d e v xs :: F)) (hp : 0 < xs.length) : ∃ g cap, v = .slice (some ⟨g, 0, none⟩) xs.length cap :=
  let ⟨S, ⟨S1, S2, a, _⟩, _⟩ := h.holds; let ⟨g, cap, e, _⟩ := Kd.R_form a hp; ⟨g, cap, e⟩
theorem row_cell {α : Type} {enc : α → Value} {h1 : ∀ x, (enc x).oneCell' = true} (dd : α) {e : TypeId} {g n cap : Nat} {xs : List α} (h : St w0 S0 w (row (Kd.scalar enc h1) e (.slice (some ⟨g, 0, none⟩) n cap) xs :: F)) (i : Nat) (hi : i < n) :
    w.cell? ⟨g, i, none⟩ = some (enc (xs.getD i dd)) ∧ w.frozen? ⟨g, i, none⟩ = false := by
  obtain ⟨S, ⟨S1, S2, a, _⟩, _⟩ := h.holds
  have := Kd.R_celln dd a (i : Int) (by omega) (by omega)
  exact this
/-- A store into a row of one-cell elements. -/
theorem row_set {α : Type} {enc : α → Value} {h1 : ∀ x, (enc x).oneCell' = true} {e : TypeId} {g n cap : Nat} {xs : List α} (h : St w0 S0 w (row (Kd.scalar enc h1) e (.slice (some ⟨g, 0, none⟩) n cap) xs :: F)) (i : Nat) (x : α) :
    St w0 S0 (w.setCell ⟨g, i, none⟩ (enc x)) (row (Kd.scalar enc h1) e (.slice (some ⟨g, 0, none⟩) n cap) (xs.set i x) :: F) :=
  h.turn1 (fun S1 a => ⟨S1, Kd.R_putn a (i : Int) x, Ext.setCell w _ _ (a.1 g (by simp [Value.ownBlock])), fun k hk => .inl hk⟩)
end St

/-- A function's contract: of memory for which all of A holds, R being so of whatever is elder and of what is handed over to be read, it returns, and all of B holds. -/
def Fun (P : Program) (f : FuncId) (args : Array Value) (R : World → Prop) (A : List HP) (B : Value → List HP) : Prop :=
  ∀ w S, (all A).h w S → (∀ w', Ext w w' S → R w') → Calls P f args w fun e w' => ∃ v, e = .returned v ∧ St w S w' (B v)

theorem Fun.call {P : Program} {f : FuncId} {args : Array Value} {R : World → Prop} {A F : List HP} {B : Value → List HP} {w0 w : World} {S0 : Nat → Prop} (hf : Fun P f args R A B) (h : St w0 S0 w (A ++ F))
    (hr : ∀ w' S', Ext w0 w' S0 → (all F).h w' S' → R w') : Calls P f args w fun e w' => ∃ v, e = .returned v ∧ St w0 S0 w' (B v ++ F) := by
  obtain ⟨ext, S, a, s⟩ := h
  obtain ⟨S1, SF, a, f', d, s1, s2⟩ := Gives.all_app _ _ _ _ a
  refine (hf w S1 a ?_).mono ?_
  · intro w' e
    exact hr w' (fun k => SF k ∧ k < w.heap.size) (ext.trans e (fun k hk => s k (s1 k hk))) ((all F).step ((all F).bound f') (fun k hk hlt => e.block k hlt (fun h1 => d k h1 hk.1)))
  · rintro e w' ⟨v, rfl, h'⟩
    exact ⟨v, rfl, St.join ext f' d (fun k hk => s k (s1 k hk)) (fun k hk => s k (s2 k hk)) h'⟩
/-- The same where the result is known. -/
def FunV (P : Program) (f : FuncId) (args : Array Value) (R : World → Prop) (A : List HP) (v : Value) (B : List HP) : Prop :=
  ∀ w S, (all A).h w S → (∀ w', Ext w w' S → R w') → Calls P f args w fun e w' => e = .returned v ∧ St w S w' B

theorem FunV.call {P : Program} {f : FuncId} {args : Array Value} {R : World → Prop} {A F B : List HP} {v : Value} {w0 w : World} {S0 : Nat → Prop} (hf : FunV P f args R A v B) (h : St w0 S0 w (A ++ F))
    (hr : ∀ w' S', Ext w0 w' S0 → (all F).h w' S' → R w') : Calls P f args w fun e w' => e = .returned v ∧ St w0 S0 w' (B ++ F) := by
  obtain ⟨ext, S, a, s⟩ := h
  obtain ⟨S1, SF, a, f', d, s1, s2⟩ := Gives.all_app _ _ _ _ a
  refine (hf w S1 a ?_).mono ?_
  · intro w' e
    exact hr w' (fun k => SF k ∧ k < w.heap.size) (ext.trans e (fun k hk => s k (s1 k hk))) ((all F).step ((all F).bound f') (fun k hk hlt => e.block k hlt (fun h1 => d k h1 hk.1)))
  · rintro e w' ⟨rfl, h'⟩
    exact ⟨rfl, St.join ext f' d (fun k hk => s k (s1 k hk)) (fun k hk => s k (s2 k hk)) h'⟩
/-- A contract that only reads, or makes memory. -/
theorem St.call_below {P : Program} {f : FuncId} {args : Array Value} {w0 w : World} {S0 : Nat → Prop} {L : List HP} {p : Value → World → Prop} (h : St w0 S0 w L)
    (hf : Calls P f args w fun e w' => ∃ v, e = .returned v ∧ p v w' ∧ Below w.heap.size w w') : Calls P f args w fun e w' => ∃ v, e = .returned v ∧ p v w' ∧ St w0 S0 w' L :=
  hf.mono (fun e w' ⟨v, he, hp, hb⟩ => ⟨v, he, hp, h.later hb⟩)

/-- A law's walk. -/
theorem FunV.law {P : Program} {f : FuncId} {args : Array Value} {R : World → Prop} {v : Value} {w : World} (h : FunV P f args R [] v []) (hr : ∀ w', Below w.heap.size w w' → R w') :
    Calls P f args w fun e w' => e = .returned v ∧ Below w.heap.size w w' :=
  (h w (fun _ => False) trivial (fun w' e => hr w' e.below)).mono (fun e w' ⟨he, hs⟩ => ⟨he, hs.ext.below⟩)

/-! ### Events of a walk -/
section
variable {P : Program} {ops : Array Oper} {rest : List Oper} {o : Oper} {a : Act} {Q : Exit → Act → World → Prop} {w0 W : World} {S0 : Nat → Prop} {F : List HP} {α : Type}
/-- A box, a build: a new block. -/
theorem ev_box (hgd : o.guard = none) {N : Tmp} (_hd : o.dst = some N) {cs : List Value} {t : TypeId} (H : St w0 S0 W F)
    (hrun : (execOp a.eval o).run P W = .ok (.value (.pointer (some ⟨W.heap.size, 0, none⟩))) (W.alloc (.cells cs.toArray t (0, 0))))
    (h : ∀ g w1, St w0 S0 w1 (obj g t cs :: F) → W.heap.size ≤ g → wpList P ops Q rest (a.put o.dst (.pointer (some ⟨g, 0, none⟩))) w1) : wpList P ops Q (o :: rest) a W :=
  Kd.event_run hgd hrun (h _ _ (H.alloc _) (Nat.le_refl _))
/-- A literal '[]T{..}'. -/
theorem ev_lit (d : Kd α) (e : Nat) (hgd : o.guard = none) {N : Tmp} (_hd : o.dst = some N) {xs : List α} {inner : List Value} (H : St w0 S0 W F)
    (hrun : (execOp a.eval o).run P W = .ok (.value (.slice (some ⟨W.heap.size, 0, none⟩) xs.length xs.length)) (W.alloc (.cells inner.toArray e)))
    (hrep : Reps (d.M W 0 (fun _ => False)) d.sz xs inner) (hm : xs.length ≤ 9223372036854775807)
    (h : ∀ v1 w1, St w0 S0 w1 (row d e v1 xs :: F) → wpList P ops Q rest (a.put o.dst v1) w1) : wpList P ops Q (o :: rest) a W := by
  refine Kd.R_lit d 0 e hgd _hd (ok := fun k => W.heap.size ≤ k) (okp := fun _ => False) (w0 := W) hrun hrep (fun _ f => f.elim) (Nat.le_refl _) (Below.refl _ _) (Nat.zero_le _) hm ?_
  intro v1 w1 ho hb hg hnew
  exact h v1 w1 (H.new_ ⟨_, ho, Ext.of_grown hg (fun k e => by cases e), fun k hk => hk⟩)
/-- append(v, p), p's cells boxed. -/
theorem ev_append (d : Kd α) (hgd : o.guard = none) (s x : Operand) (t e : TypeId) (z : Value) (bytes : Nat)
    (ho : o.op = .call { callee := .builtin .append, args := #[s, x], argTypes := #[t, t] })
    (ht : P.underlying t = some (.slice e)) (hinfo : (P.info? e).map (fun i => (i.zero, i.size, i.bytes)) = some (some z, d.sz, bytes)) (hz : z.cells.size = d.sz) (hs0 : 0 < d.sz) (hb0 : 0 < bytes)
    (v : Value) (xs : List α) (p : α) (cs : List Value) (hs : a.eval s = v) (hx : a.eval x = .slice (some ⟨W.heap.size, 0, none⟩) 1 1)
    (H : St w0 S0 W (row d e v xs :: cells d p cs :: F)) (hl : (xs.length + 1) * bytes ≤ 140737488355328)
    (h : ∀ v1 w1, St w0 S0 w1 (row d e v1 (xs ++ [p]) :: F) → wpList P ops Q rest (a.put o.dst v1) w1) :
    wpList P ops Q (o :: rest) a (W.alloc (.cells cs.toArray e)) := by
  obtain ⟨ext, S, ⟨S1, S', hv, ⟨S2, SF, hp, hf, d2, u1, u2⟩, d1, s1, s2⟩, sb⟩ := H
  have hsub : ∀ k, v.ownBlock = some k → S1 k := hv.1
  refine Kd.R_append d (w0 := W) 0 hgd s x t e z bytes ho ht hinfo hz hs0 hb0 v xs p cs (fun k => S1 k ∨ S2 k ∨ W.heap.size ≤ k) (fun k => S2 k) hs hx hp (fun k hk => ⟨.inr (.inl hk), fun e' => d1 k (hsub k e'.symm) (u1 k hk)⟩) (fun k hk => .inr (.inr hk))
    (Kd.R_mono hv (fun k hk => .inl hk)) (Below.refl _ _) (Nat.zero_le _) hl ?_
  intro v1 w1 h1 hb hg hat
  refine h v1 w1 (St.join (M := [row d e v1 (xs ++ [p])]) (S1 := fun k => S1 k ∨ S2 k) ext hf ?_ ?_ (fun k hk => sb k (s2 k (u2 k hk))) ?_)
  · rintro k (h2 | h2) h3
    · exact d1 k h2 (u2 k h3)
    · exact d2 k h2 h3
  · rintro k (h2 | h2)
    · exact sb k (s1 k h2)
    · exact sb k (s2 k (u1 k h2))
  · exact ⟨Ext.of_grown hg (fun k hk => .inl (hsub k hk)), _, Gives.emp_intro _ _ _ h1, fun k hk => by
      rcases hk with h2 | h2 | h2
      · exact .inl (.inl h2)
      · exact .inl (.inr h2)
      · exact .inr h2⟩
/-- An element's cells lead to no memory. -/
def Flat (d : Kd α) : Prop := ∀ w b x cs, d.K w x cs → d.M w b (fun _ => False) x cs
/-- append(v, ys...): ys only read, its elements flat. -/
theorem ev_rows (d : Kd α) (hflat : Flat d) (hgd : o.guard = none) (s x : Operand) (t e : TypeId) (z : Value) (bytes : Nat)
    (ho : o.op = .call { callee := .builtin .append, args := #[s, x], argTypes := #[t, t] })
    (ht : P.underlying t = some (.slice e)) (hinfo : (P.info? e).map (fun i => (i.zero, i.size, i.bytes)) = some (some z, d.sz, bytes)) (hz : z.cells.size = d.sz) (hs0 : 0 < d.sz) (hb0 : 0 < bytes)
    (v : Value) (xs ys : List α) (A : Option Addr) (c : Nat) (hs : a.eval s = v) (hx : a.eval x = .slice A ys.length c)
    (H : St w0 S0 W (row d e v xs :: F)) (HR : d.C W A ys.length ys) (hl : (xs.length + ys.length) * bytes ≤ 140737488355328)
    (h : ∀ v1 w1, St w0 S0 w1 (row d e v1 (xs ++ ys) :: F) → wpList P ops Q rest (a.put o.dst v1) w1) :
    wpList P ops Q (o :: rest) a W := by
  obtain ⟨ext, S, ⟨S1, SF, hv, hf, d1, s1, s2⟩, sb⟩ := H
  have hsub : ∀ k, v.ownBlock = some k → S1 k := hv.1
  refine Kd.R_append_rows d (Rr := d.K W) (w0 := W) 0 hgd s x t e z bytes ho ht hinfo hz hs0 hb0 v xs ys A ys.length c (fun k => S1 k ∨ W.heap.size ≤ k) (fun _ => False) hs hx
    (Kd.R_mono hv (fun k hk => .inl hk)) HR (fun x cs hk => hflat W 0 x cs hk) (fun k f => f.elim) (fun k hk => .inr hk) (Below.refl _ _) (Nat.zero_le _) hl ?_
  intro v1 w1 h1 hb hg hat
  refine h v1 w1 (St.join (M := [row d e v1 (xs ++ ys)]) (S1 := S1) ext hf d1 (fun k hk => sb k (s1 k hk)) (fun k hk => sb k (s2 k hk)) ?_)
  exact ⟨Ext.of_grown hg hsub, _, Gives.emp_intro _ _ _ h1, fun k hk => hk⟩
end
end Go.Proofs.Ytkhbmamcbhjafaa.Sl
end
section
/- Events at a step of a region that draws its order. -/
namespace Go.Proofs.Ytkhbmamcbhjafaa.Sl
open Go.RowKit Go.Proofs.YtkhbmamcbhjafaaW.PrintWords Go.Proofs.YtkhbmamcbhjafaaW.PrintLast Go.Proofs.YtkhbmamcbhjafaaW.PrintMore
open HP
set_option linter.unusedVariables false
section
variable {P : Program} {ops : Array Oper} {o : Oper} {a : Act} {Kc : Act → World → Prop} {Q : Exit → Act → World → Prop} {w0 W : World} {S0 : Nat → Prop} {F : List HP} {α : Type}
theorem ev_lit_step (d : Kd α) (e : Nat) (hw : Region.wanted o (yielded ops a.tmps) = true) {N : Tmp} (_hd : o.dst = some N) {xs : List α} {inner : List Value} (H : St w0 S0 W F)
    (hrun : (execOp a.eval o).run P W = .ok (.value (.slice (some ⟨W.heap.size, 0, none⟩) xs.length xs.length)) (W.alloc (.cells inner.toArray e)))
    (hrep : Reps (d.M W 0 (fun _ => False)) d.sz xs inner) (hm : xs.length ≤ 9223372036854775807)
    (h : ∀ v1 w1, St w0 S0 w1 (row d e v1 xs :: F) → Kc (a.put o.dst v1) w1) : if Region.wanted o (yielded ops a.tmps) = true then Oper.wp P o a W Kc Q else Kc (a.put o.dst undef) W := by
  refine Kd.R_lit_step d 0 e hw _hd (ok := fun k => W.heap.size ≤ k) (okp := fun _ => False) (w0 := W) hrun hrep (fun _ f => f.elim) (Nat.le_refl _) (Below.refl _ _) (Nat.zero_le _) hm ?_
  intro v1 w1 ho hb hg hnew
  exact h v1 w1 (H.new_ ⟨_, ho, Ext.of_grown hg (fun k e => by cases e), fun k hk => hk⟩)
/-- Is the step at this very world? -/
theorem at_w (W : World) (h : if Region.wanted o (yielded ops a.tmps) = true then Oper.wp P o a W Kc Q else Kc (a.put o.dst undef) W) : if Region.wanted o (yielded ops a.tmps) = true then Oper.wp P o a W Kc Q else Kc (a.put o.dst undef) W := h
/-- A literal laid down, whatever step it is. -/
theorem St.lit {d : Kd α} {e : TypeId} (H : St w0 S0 W F) {xs : List α} {inner : List Value} (hrep : Reps (d.M W 0 (fun _ => False)) d.sz xs inner) (hm : xs.length ≤ 9223372036854775807) :
    St w0 S0 (W.alloc (.cells inner.toArray e)) (row d e (.slice (some ⟨W.heap.size, 0, none⟩) xs.length xs.length) xs :: F) := by
  refine H.new_ ⟨fun k => W.heap.size ≤ k, ⟨fun k hk => ?_, inner, ?_, ?_⟩, Ext.alloc W _ _, fun k hk => hk⟩
  · have : W.heap.size = k := by simpa [Value.ownBlock] using hk
    omega
  · have h2 := World.ownsRow_lit (base := 0) (e := e) (size := d.sz) W inner.toArray xs.length (Nat.zero_le _) (by simpa [maxLen] using hm) (by simpa using hrep.1)
    simpa using h2
  · refine hrep.imp_ (fun p c hp => d.M_mono (fun k hk => ?_) (Kd.M_below (d.M_bound hp) (below_alloc (Below.refl _ _) _)))
    exact hk.1.elim
theorem ev_rows_step (d : Kd α) (hflat : Flat d) (hw : Region.wanted o (yielded ops a.tmps) = true) (s x : Operand) (t e : TypeId) (z : Value) (bytes : Nat)
    (ho : o.op = .call { callee := .builtin .append, args := #[s, x], argTypes := #[t, t] })
    (ht : P.underlying t = some (.slice e)) (hinfo : (P.info? e).map (fun i => (i.zero, i.size, i.bytes)) = some (some z, d.sz, bytes)) (hz : z.cells.size = d.sz) (hs0 : 0 < d.sz) (hb0 : 0 < bytes)
    (v : Value) (xs ys : List α) (A : Option Addr) (c : Nat) (hs : a.eval s = v) (hx : a.eval x = .slice A ys.length c)
    (H : St w0 S0 W (row d e v xs :: F)) (HR : d.C W A ys.length ys) (hl : (xs.length + ys.length) * bytes ≤ 140737488355328)
    (h : ∀ v1 w1, St w0 S0 w1 (row d e v1 (xs ++ ys) :: F) → Kc (a.put o.dst v1) w1) :
    if Region.wanted o (yielded ops a.tmps) = true then Oper.wp P o a W Kc Q else Kc (a.put o.dst undef) W := by
  obtain ⟨ext, S, ⟨S1, SF, hv, hf, d1, s1, s2⟩, sb⟩ := H
  have hsub : ∀ k, v.ownBlock = some k → S1 k := hv.1
  refine Kd.R_append_rows_step d (Rr := d.K W) (w0 := W) 0 hw s x t e z bytes ho ht hinfo hz hs0 hb0 v xs ys A ys.length c (fun k => S1 k ∨ W.heap.size ≤ k) (fun _ => False) hs hx
    (Kd.R_mono hv (fun k hk => .inl hk)) HR (fun x cs hk => hflat W 0 x cs hk) (fun k f => f.elim) (fun k hk => .inr hk) (Below.refl _ _) (Nat.zero_le _) hl ?_
  intro v1 w1 h1 hb hg hat
  refine h v1 w1 (St.join (M := [row d e v1 (xs ++ ys)]) (S1 := S1) ext hf d1 (fun k hk => sb k (s1 k hk)) (fun k hk => sb k (s2 k hk)) ?_)
  exact ⟨Ext.of_grown hg hsub, _, Gives.emp_intro _ _ _ h1, fun k hk => hk⟩
end
end Go.Proofs.Ytkhbmamcbhjafaa.Sl
end
section
/- Rows whose elements are written-out cells; a map's block: assertions and what a walk does with them. -/
namespace Go.Proofs.Ytkhbmamcbhjafaa.Sl
open Go.RowKit Go.Proofs.YtkhbmamcbhjafaaW.PrintWords Go.Proofs.YtkhbmamcbhjafaaW.PrintLast Go.Proofs.YtkhbmamcbhjafaaW.PrintMore
open HP
set_option linter.unusedVariables false
set_option linter.unusedSimpArgs false
/-- Elements of n cells, written out; they lead nowhere that the row would own. -/
def raw (n : Nat) : Kd (List Value) where
  sz := n
  E := []
  K := fun _ x cs => cs = x ∧ x.length = n ∧ ∀ u ∈ x, u.oneCell' = true
  M := fun _ _ _ x cs => cs = x ∧ x.length = n ∧ ∀ u ∈ x, u.oneCell' = true
  K_len := fun h => by rw [h.1]; exact h.2.1
  K_one := fun h u hu => h.2.2 u (by rw [← h.1]; exact hu)
  K_below := fun _ h => h
  K_of_M := fun h => h
  M_mono := fun _ h => h
  M_bound := fun h => h
  M_move := fun _ h => h
  M_lower := fun _ h => h
theorem raw_flat (n : Nat) : Flat (raw n) := fun _ _ _ _ h => h
/-- Are these n cells that may lie in a row? -/
def Cells (n : Nat) (x : List Value) : Prop := x.length = n ∧ ∀ u ∈ x, u.oneCell' = true
theorem raw_M {n : Nat} {x : List Value} (h : Cells n x) (w : World) (b : Nat) (ok : Nat → Prop) : (raw n).M w b ok x x := ⟨rfl, h.1, h.2⟩
theorem reps_raw {n : Nat} : ∀ {xs : List (List Value)}, (∀ x ∈ xs, Cells n x) → ∀ (w : World) (b : Nat) (ok : Nat → Prop), Reps ((raw n).M w b ok) n xs xs.flatten := by
  intro xs h w b ok
  induction xs with
  | nil => exact Reps.none _ _
  | cons x xs ih =>
    have hx := h x (by simp)
    have h1 := (Reps.none ((raw n).M w b ok) n).snoc (raw_M hx w b ok) hx.1
    exact Kd.reps_append h1 (ih (fun y hy => h y (by simp [hy])))
theorem raw_reps {n : Nat} {w : World} {b : Nat} {ok : Nat → Prop} : ∀ {xs : List (List Value)} {inner : List Value}, Reps ((raw n).M w b ok) n xs inner → inner = xs.flatten ∧ ∀ x ∈ xs, Cells n x := by
  intro xs
  induction xs with
  | nil => intro inner h; refine ⟨?_, by simp⟩; have := h.1; simp at this; simpa using this
  | cons x xs ih =>
    intro inner h
    have h0 := h.2 0 x rfl
    simp only [Nat.zero_mul, List.drop_zero] at h0
    have hlen := h.1
    rw [List.length_cons, Nat.add_mul, Nat.one_mul] at hlen
    have h1 := ih (inner := inner.drop n) ⟨by rw [List.length_drop]; omega, fun j p hj => by
      have := h.2 (j + 1) p (by simpa using hj)
      rw [List.drop_drop]
      rw [Nat.add_mul, Nat.one_mul] at this
      rw [Nat.add_comm]
      exact this⟩
    refine ⟨?_, ?_⟩
    · rw [List.flatten_cons, ← h1.1, ← h0.1, List.take_append_drop]
    · intro y hy
      rcases List.mem_cons.1 hy with rfl | hy
      · exact ⟨h0.2.1, h0.2.2⟩
      · exact h1.2 y hy
/-- A row's block: the elements' cells one behind the other, then whatever. -/
theorem raw_row {n : Nat} {e : TypeId} {w : World} {S : Nat → Prop} {g k cap : Nat} {xs : List (List Value)} :
    (row (raw n) e (.slice (some ⟨g, 0, none⟩) k cap) xs).h w S ↔
      ∃ cur : List Value, (obj g e cur).h w S ∧ k = xs.length ∧ k ≤ cap ∧ cap ≤ 9223372036854775807 ∧ cur.length = cap * n ∧ cur.take (k * n) = xs.flatten ∧ ∀ x ∈ xs, Cells n x := by
  constructor
  · rintro ⟨h0, inner, ⟨h1, h2⟩, hr⟩
    obtain ⟨rfl, hc⟩ := raw_reps hr
    rcases h2 with ⟨h2, _⟩ | ⟨g', cap', cur, h2, _, hh, hle, hm, hsz, ht⟩
    · cases h2
    · simp only [Value.slice.injEq, Option.some.injEq, Addr.mk.injEq] at h2
      obtain ⟨⟨rfl, _⟩, rfl, rfl⟩ := h2
      exact ⟨cur.toList, ⟨by simpa using hh, h0 g rfl⟩, rfl, hle, by simpa [maxLen] using hm, by have h9 : cur.size = cap * n := hsz; simpa using h9, ht, hc⟩
  · rintro ⟨cur, ⟨hh, hS⟩, rfl, hle, hm, hsz, ht, hc⟩
    refine ⟨fun q hq => ?_, xs.flatten, ⟨?_, .inr ⟨g, cap, cur.toArray, rfl, Nat.zero_le _, hh, hle, by simpa [maxLen] using hm, by show cur.toArray.size = cap * n; simpa using hsz, by show List.take (xs.length * n) cur.toArray.toList = xs.flatten; simpa using ht⟩⟩, reps_raw hc _ _ _⟩
    · have : g = q := by simpa [Value.ownBlock] using hq
      subst this
      exact hS
    · have := (reps_raw (w := w) (b := 0) (ok := fun _ => True) hc).1
      exact this
theorem flatten_len {n : Nat} {xs : List (List Value)} (h : ∀ x ∈ xs, Cells n x) : xs.flatten.length = xs.length * n := (reps_raw h default 0 (fun _ => True)).1
theorem flatten_get {n : Nat} : ∀ {xs : List (List Value)} (h : ∀ x ∈ xs, Cells n x) (i j : Nat) (x : List Value), xs[i]? = some x → j < n → xs.flatten[i * n + j]? = x[j]?
  | [], _, _, _, _, h, _ => by simp at h
  | y :: xs, h, 0, j, x, hx, hj => by
    have := (h y (by simp)).1
    simp only [List.getElem?_cons_zero, Option.some.injEq] at hx
    subst hx
    rw [List.flatten_cons, Nat.zero_mul, Nat.zero_add, List.getElem?_append_left (by omega)]
  | y :: xs, h, i + 1, j, x, hx, hj => by
    have h1 := (h y (by simp)).1
    simp only [List.getElem?_cons_succ] at hx
    have h2 := flatten_get (fun z hz => h z (by simp [hz])) i j x hx hj
    rw [List.flatten_cons, List.getElem?_append_right (by rw [h1, Nat.add_mul]; omega), h1, ← h2]
    congr 1
    rw [Nat.add_mul, Nat.one_mul]
    omega
theorem flatten_set {n : Nat} : ∀ {xs : List (List Value)} (h : ∀ x ∈ xs, Cells n x) (i j : Nat) (x : List Value) (v : Value), xs[i]? = some x → j < n → (xs.set i (x.set j v)).flatten = xs.flatten.set (i * n + j) v
  | [], _, _, _, _, _, h, _ => by simp at h
  | y :: xs, h, 0, j, x, v, hx, hj => by
    have := (h y (by simp)).1
    simp only [List.getElem?_cons_zero, Option.some.injEq] at hx
    subst hx
    rw [List.set_cons_zero, List.flatten_cons, List.flatten_cons, Nat.zero_mul, Nat.zero_add, List.set_append_left _ _ (by omega)]
  | y :: xs, h, i + 1, j, x, v, hx, hj => by
    have h1 := (h y (by simp)).1
    simp only [List.getElem?_cons_succ] at hx
    have h2 := flatten_set (fun z hz => h z (by simp [hz])) i j x v hx hj
    rw [List.set_cons_succ, List.flatten_cons, List.flatten_cons, h2, List.set_append_right _ _ (by rw [h1, Nat.add_mul]; omega), h1]
    congr 2
    rw [Nat.add_mul, Nat.one_mul]
    omega
section
variable {w0 w : World} {S0 : Nat → Prop} {F : List HP} {n g k cap : Nat} {e : TypeId} {xs : List (List Value)}
theorem St.raw_all (h : St w0 S0 w (row (raw n) e (.slice (some ⟨g, 0, none⟩) k cap) xs :: F)) : k = xs.length ∧ k ≤ cap ∧ cap ≤ 9223372036854775807 ∧ ∀ x ∈ xs, Cells n x := by
  obtain ⟨_, S, ⟨S1, S2, a, _⟩, _⟩ := h
  obtain ⟨cur, _, h1, h2, h3, _, _, h4⟩ := raw_row.1 a
  exact ⟨h1, h2, h3, h4⟩
/-- A cell of a row. -/
theorem St.raw_cell (h : St w0 S0 w (row (raw n) e (.slice (some ⟨g, 0, none⟩) k cap) xs :: F)) (i j : Nat) {x : List Value} (hx : xs[i]? = some x) (hj : j < n) :
    w.cell? ⟨g, i * n + j, none⟩ = x[j]? ∧ w.frozen? ⟨g, i * n + j, none⟩ = false := by
  obtain ⟨_, S, ⟨S1, S2, a, _⟩, _⟩ := h
  obtain ⟨cur, ⟨hh, _⟩, h1, h2, h3, h5, h6, h4⟩ := raw_row.1 a
  have hi : i < xs.length := (List.getElem?_eq_some_iff.1 hx).1
  have h7 := flatten_get h4 i j x hx hj
  rw [← h6, List.getElem?_take_of_lt (by rw [h1]; calc i * n + j < i * n + n := by omega
    _ = (i + 1) * n := by rw [Nat.add_mul, Nat.one_mul]
    _ ≤ xs.length * n := Nat.mul_le_mul_right _ hi)] at h7
  exact ⟨by simp [World.cell?, hh, h7], by simp [World.frozen?, hh]⟩
/-- One cell of an element is written. -/
theorem St.raw_set (h : St w0 S0 w (row (raw n) e (.slice (some ⟨g, 0, none⟩) k cap) xs :: F)) (i j : Nat) {x : List Value} (hx : xs[i]? = some x) (hj : j < n) (v : Value) (hv : v.oneCell' = true) :
    St w0 S0 (w.setCell ⟨g, i * n + j, none⟩ v) (row (raw n) e (.slice (some ⟨g, 0, none⟩) k cap) (xs.set i (x.set j v)) :: F) := by
  refine h.turn1 (fun S1 a => ⟨S1, ?_, ?_, fun k hk => .inl hk⟩)
  · obtain ⟨cur, ⟨hh, hS⟩, h1, h2, h3, h5, h6, h4⟩ := raw_row.1 a
    have hi : i < xs.length := (List.getElem?_eq_some_iff.1 hx).1
    have hlt : i * n + j < k * n := by
      rw [h1]
      calc i * n + j < i * n + n := by omega
        _ = (i + 1) * n := by rw [Nat.add_mul, Nat.one_mul]
        _ ≤ xs.length * n := Nat.mul_le_mul_right _ hi
    refine raw_row.2 ⟨cur.set (i * n + j) v, ⟨by simp [World.setCell, Array.getElem?_modify, hh], hS⟩, by rw [List.length_set]; exact h1, h2, h3, by rw [List.length_set]; exact h5, ?_, ?_⟩
    · rw [flatten_set h4 i j x v hx hj, ← h6, List.take_set]
    · intro y hy
      rcases List.mem_or_eq_of_mem_set hy with hy | rfl
      · exact h4 y hy
      · have hc := h4 x (List.mem_of_getElem? hx)
        exact ⟨by rw [List.length_set]; exact hc.1, fun u hu => (List.mem_or_eq_of_mem_set hu).elim (hc.2 u) (fun e => e ▸ hv)⟩
  · obtain ⟨cur, ⟨hh, hS⟩, _⟩ := raw_row.1 a
    exact Ext.setCell w _ _ hS
/-- What stands up to a place. -/
theorem St.raw_take {A : Option Addr} (h : St w0 S0 w (row (raw n) e (.slice A k cap) xs :: F)) (m : Nat) (hm : m ≤ xs.length) : St w0 S0 w (row (raw n) e (.slice A m cap) (xs.take m) :: F) :=
  h.head (fun w S a => Kd.R_take a hm)
end
/-! ### maps -/
section
variable {κ ν : Type}
def mget [DecidableEq κ] (m : List (κ × ν)) (k : κ) : Option ν := (m.find? (fun p => decide (p.1 = k))).map (·.2)
def mput [DecidableEq κ] (m : List (κ × ν)) (k : κ) (v : ν) : List (κ × ν) := if (mget m k).isSome then m.map (fun p => if p.1 = k then (k, v) else p) else m ++ [(k, v)]
def mdel [DecidableEq κ] (m : List (κ × ν)) (k : κ) : List (κ × ν) := m.filter (fun p => !decide (p.1 = k))
/-- How a map lies in its block: keys of one plain kind, told apart by what they are written as. -/
structure MapLies (d : TypeDesc) (ek : κ → Value) (ev : ν → Value) (m : List (κ × ν)) (es : Array MapEntry) (clock : Nat) : Prop where
  stamped : MapKept.Stamped es clock
  keys : ∀ k, MapKept.IsKey d (ek k)
  inj : ∀ a b, ek a = ek b → a = b
  lies : es.toList.map (fun e => (e.key, e.val)) = m.map (fun p => (ek p.1, ev p.2))
/-- A map's block: what it holds, in the order in which it came. -/
def map (g : Nat) (d : TypeDesc) (ek : κ → Value) (ev : ν → Value) (m : List (κ × ν)) : HP :=
  ex fun es : Array MapEntry => ex fun clock : Nat => HP.and (MapLies d ek ev m es clock) (own g (.map es clock))
variable {d : TypeDesc} {ek : κ → Value} {ev : ν → Value} {m : List (κ × ν)} {es : Array MapEntry} {clock : Nat}
theorem MapLies.isKey (h : MapLies d ek ev m es clock) : ∀ x ∈ es.toList, MapKept.IsKey d x.key := by
  intro x hx
  have h1 : (x.key, x.val) ∈ m.map (fun p => (ek p.1, ev p.2)) := h.lies ▸ List.mem_map.2 ⟨x, hx, rfl⟩
  obtain ⟨p, _, e⟩ := List.mem_map.1 h1
  rw [← (Prod.mk.inj e).1]
  exact h.keys _
theorem MapLies.nodup (h : MapLies d ek ev m es clock) : (m.map (·.1)).Nodup := by
  have h1 : es.toList.map (·.key) = (m.map (·.1)).map ek := by
    have := congrArg (List.map Prod.fst) h.lies
    simpa [List.map_map, Function.comp_def] using this
  have h2 := h.stamped.2.2
  rw [h1] at h2
  exact (List.pairwise_map.1 h2).imp (fun hab e => hab (by rw [e]))
theorem MapLies.size (h : MapLies d ek ev m es clock) : es.size = m.length := by
  have := congrArg List.length h.lies
  simpa using this
theorem MapLies.at_ (h : MapLies d ek ev m es clock) (j : Nat) (e : MapEntry) (he : es.toList[j]? = some e) : ∃ p, m[j]? = some p ∧ e.key = ek p.1 ∧ e.val = ev p.2 := by
  have h1 : (es.toList.map (fun e => (e.key, e.val)))[j]? = some (e.key, e.val) := by rw [List.getElem?_map, he]; rfl
  rw [h.lies, List.getElem?_map] at h1
  cases hm : m[j]? with
  | none => rw [hm] at h1; cases h1
  | some p =>
    rw [hm] at h1
    simp only [Option.map_some, Option.some.injEq, Prod.mk.injEq] at h1
    exact ⟨p, rfl, h1.1.symm, h1.2.symm⟩
theorem mget_none [DecidableEq κ] (k : κ) (h : ∀ p ∈ m, p.1 ≠ k) : mget m k = none := by
  unfold mget
  rw [List.find?_eq_none.2 (fun p hp => by simpa using h p hp)]
  rfl
theorem mget_at [DecidableEq κ] (hn : (m.map (·.1)).Nodup) (j : Nat) (p : κ × ν) (hp : m[j]? = some p) : mget m p.1 = some p.2 := by
  unfold mget
  have : m.find? (fun q => decide (q.1 = p.1)) = some p := by
    induction m generalizing j with
    | nil => simp at hp
    | cons q m ih =>
      rw [List.map_cons, List.nodup_cons] at hn
      cases j with
      | zero =>
        simp only [List.getElem?_cons_zero, Option.some.injEq] at hp
        subst hp
        simp
      | succ j =>
        simp only [List.getElem?_cons_succ] at hp
        have hne : q.1 ≠ p.1 := fun e => hn.1 (by rw [e]; exact List.mem_map.2 ⟨p, List.mem_of_getElem? hp, rfl⟩)
        rw [List.find?_cons]
        simp only [hne, decide_false]
        exact ih hn.2 j hp
  rw [this]
  rfl
theorem MapLies.find [DecidableEq κ] (h : MapLies d ek ev m es clock) (k : κ) : (Instr.findNow d (ek k) es.toList 0 = some none ∧ mget m k = none ∧ ∀ p ∈ m, p.1 ≠ k) ∨
    ∃ j v e, Instr.findNow d (ek k) es.toList 0 = some (some (j, ev v)) ∧ m[j]? = some (k, v) ∧ es.toList[j]? = some e ∧ e.key = ek k ∧ mget m k = some v := by
  rcases MapKept.findNow_spec (h.keys k) es.toList 0 h.isKey with ⟨h1, h2⟩ | ⟨j, e, h1, h2, h3⟩
  · have h4 : ∀ p ∈ m, p.1 ≠ k := by
      rintro p hp rfl
      obtain ⟨j, hj⟩ := List.mem_iff_getElem?.1 hp
      have h5 : (es.toList.map (fun e => (e.key, e.val)))[j]? = some (ek p.1, ev p.2) := by rw [h.lies, List.getElem?_map, hj]; rfl
      rw [List.getElem?_map] at h5
      cases he : es.toList[j]? with
      | none => rw [he] at h5; cases h5
      | some e =>
        rw [he] at h5
        simp only [Option.map_some, Option.some.injEq, Prod.mk.injEq] at h5
        exact h2 e (List.mem_of_getElem? he) h5.1
    exact .inl ⟨h1, mget_none k h4, h4⟩
  · obtain ⟨p, hp, e1, e2⟩ := h.at_ j e h2
    have hk : p.1 = k := h.inj _ _ (by rw [← e1, h3])
    subst hk
    refine .inr ⟨j, p.2, e, ?_, hp, h2, h3, mget_at h.nodup j p hp⟩
    rw [h1, Nat.zero_add, e2]
theorem mput_new [DecidableEq κ] (k : κ) (v : ν) (h : mget m k = none) : mput m k v = m ++ [(k, v)] := by simp [mput, h]
theorem map_set [DecidableEq κ] (hn : (m.map (·.1)).Nodup) (j : Nat) (k : κ) (v v' : ν) (hp : m[j]? = some (k, v')) : m.map (fun p => if p.1 = k then (k, v) else p) = m.set j (k, v) := by
  induction m generalizing j with
  | nil => simp at hp
  | cons q m ih =>
    rw [List.map_cons, List.nodup_cons] at hn
    cases j with
    | zero =>
      simp only [List.getElem?_cons_zero, Option.some.injEq] at hp
      subst hp
      simp only [List.map_cons, if_true, List.set_cons_zero, List.cons.injEq, true_and]
      conv => rhs; rw [← List.map_id m]
      refine List.map_congr_left (fun p hp => ?_)
      rw [if_neg (fun e => hn.1 (by rw [← e]; exact List.mem_map.2 ⟨p, hp, rfl⟩))]
      rfl
    | succ j =>
      simp only [List.getElem?_cons_succ] at hp
      have hne : q.1 ≠ k := fun e => hn.1 (by rw [e]; exact List.mem_map.2 ⟨(k, v'), List.mem_of_getElem? hp, rfl⟩)
      rw [List.map_cons, if_neg hne, List.set_cons_succ, ih hn.2 j hp]
theorem filter_erase [DecidableEq κ] (hn : (m.map (·.1)).Nodup) (j : Nat) (k : κ) (v' : ν) (hp : m[j]? = some (k, v')) : mdel m k = m.eraseIdx j := by
  unfold mdel
  induction m generalizing j with
  | nil => simp at hp
  | cons q m ih =>
    rw [List.map_cons, List.nodup_cons] at hn
    cases j with
    | zero =>
      simp only [List.getElem?_cons_zero, Option.some.injEq] at hp
      subst hp
      simp only [List.filter_cons, decide_true, Bool.not_true, Bool.false_eq_true, if_false, List.eraseIdx_cons_zero]
      exact List.filter_eq_self.2 (fun p hp => by
        have : p.1 ≠ k := fun e => hn.1 (by rw [← e]; exact List.mem_map.2 ⟨p, hp, rfl⟩)
        simpa using this)
    | succ j =>
      simp only [List.getElem?_cons_succ] at hp
      have hne : q.1 ≠ k := fun e => hn.1 (by rw [e]; exact List.mem_map.2 ⟨(k, v'), List.mem_of_getElem? hp, rfl⟩)
      rw [List.filter_cons]
      simp only [hne, decide_false, Bool.not_false, if_true, List.eraseIdx_cons_succ]
      rw [ih hn.2 j hp]
theorem erase_map {α β : Type} (f : α → β) : ∀ (l : List α) (i : Nat), (l.eraseIdx i).map f = (l.map f).eraseIdx i
  | [], _ => by simp
  | _ :: _, 0 => by simp
  | x :: l, i + 1 => by simp [erase_map f l i]
theorem mdel_none [DecidableEq κ] (k : κ) (h : ∀ p ∈ m, p.1 ≠ k) : mdel m k = m := List.filter_eq_self.2 (fun p hp => by simpa using h p hp)
section
variable {P : Program} {w0 w : World} {S0 : Nat → Prop} {F : List HP} {g : Nat} {t kt et : TypeId}
/-- An empty one, just made. -/
theorem St.map_made (h : St w0 S0 w F) (d : TypeDesc) (ek : κ → Value) (ev : ν → Value) (hk : ∀ k, MapKept.IsKey d (ek k)) (inj : ∀ a b, ek a = ek b → a = b) : St w0 S0 (w.alloc (.map #[] 0)) (map w.heap.size d ek ev ([] : List (κ × ν)) :: F) :=
  (h.alloc (.map #[] 0)).head (fun _ _ a => ⟨#[], 0, ⟨MapKept.stamped_empty 0, hk, inj, rfl⟩, a⟩)
theorem St.map_open (h : St w0 S0 w (map g d ek ev m :: F)) : ∃ es clock, MapLies d ek ev m es clock ∧ St w0 S0 w (own g (.map es clock) :: F) := by
  obtain ⟨es, h⟩ := St.ex_ h
  obtain ⟨clock, h⟩ := St.ex_ h
  obtain ⟨hl, h⟩ := St.and_ h
  exact ⟨es, clock, hl, h⟩
theorem St.map_shut (h : St w0 S0 w (own g (.map es clock) :: F)) (hl : MapLies d ek ev m es clock) : St w0 S0 w (map g d ek ev m :: F) := St.ex_in es (St.ex_in clock (St.and_in hl h))
theorem St.map_nodup (h : St w0 S0 w (map g d ek ev m :: F)) : (m.map (·.1)).Nodup := by
  obtain ⟨es, clock, hl, _⟩ := St.map_open h
  exact hl.nodup
/-- What a look-up hands out. -/
def oval (ev : ν → Value) (z : Value) : Option ν → Value
  | some v => ev v
  | none => z
/-- v, ok := m[k] -/
theorem St.map_look [DecidableEq κ] (h : St w0 S0 w (map g d ek ev m :: F)) (ht : P.underlying t = some (.map kt et)) (hk : P.underlying kt = some d) (k : κ) {z : Value} (hz : ∀ w, (zeroValue et).run P w = .ok z w) :
    (Instr.lookup t (.map (some g)) (ek k) true).run P w = .ok (.tuple #[oval ev z (mget m k), .bool (mget m k).isSome]) w ∧
    (Instr.lookup t (.map (some g)) (ek k) false).run P w = .ok (oval ev z (mget m k)) w := by
  obtain ⟨es, clock, hl, h⟩ := St.map_open h
  have hb := h.blk
  rcases hl.find k with ⟨h1, h2, _⟩ | ⟨j, v, e, h1, _, _, _, h2⟩
  · simp [Instr.lookup, run_underlying ht, MapKept.run_getObj_map hb, MapKept.run_checkKey hk (hl.keys k), MapKept.run_findKey hk h1, Result.andThen, h2, hz, oval]
  · simp [Instr.lookup, run_underlying ht, MapKept.run_getObj_map hb, MapKept.run_checkKey hk (hl.keys k), MapKept.run_findKey hk h1, Result.andThen, h2, oval]
theorem St.own_turn {o o' : Obj} (h : St w0 S0 w (own g o :: F)) : St w0 S0 { w with heap := w.heap.setIfInBounds g o' } (own g o' :: F) :=
  h.turn1 (fun S1 a => ⟨S1, ⟨(MapKept.heap_set a.1).1, a.2⟩, ⟨rfl, rfl, rfl, by simp, fun i _ hn => (MapKept.heap_set a.1).2 i (fun e => hn (e ▸ a.2))⟩, fun k hk => .inl hk⟩)
/-- m[k] = v -/
theorem St.map_store [DecidableEq κ] (h : St w0 S0 w (map g d ek ev m :: F)) (ht : P.underlying t = some (.map kt et)) (hk : P.underlying kt = some d) (k : κ) (v : ν) :
    ∃ w', (Instr.mapUpdate t (.map (some g)) (ek k) (ev v)).run P w = .ok () w' ∧ St w0 S0 w' (map g d ek ev (mput m k v) :: F) := by
  obtain ⟨es, clock, hl, h⟩ := St.map_open h
  have hb := h.blk
  rcases hl.find k with ⟨h1, h2, h3⟩ | ⟨j, v', e, h1, h2, h3, h4, h5⟩
  · refine ⟨{ w with heap := w.heap.setIfInBounds g (.map (es.push { key := ek k, val := ev v, born := clock }) (clock + 1)) }, by simp [Instr.mapUpdate, run_underlying ht, MapKept.run_getObj_map hb, MapKept.run_checkKey hk (hl.keys k), MapKept.run_findKey hk h1, MapKept.run_setObj_map _ hb, Result.andThen], ?_⟩
    refine St.map_shut h.own_turn ⟨MapKept.stamped_push hl.stamped (fun x hx e => ?_), hl.keys, hl.inj, ?_⟩
    · obtain ⟨i, hi⟩ := List.mem_iff_getElem?.1 hx
      obtain ⟨p, hp, e1, _⟩ := hl.at_ i x hi
      exact h3 p (List.mem_of_getElem? hp) (hl.inj _ _ (by rw [← e1, e]))
    · rw [mput_new k v h2]
      simp [hl.lies]
  · have hj : es[j]? = some e := by simpa using h3
    refine ⟨{ w with heap := w.heap.setIfInBounds g (.map (es.modify j fun e => { e with key := ek k, val := ev v }) clock) }, by simp [Instr.mapUpdate, run_underlying ht, MapKept.run_getObj_map hb, MapKept.run_checkKey hk (hl.keys k), MapKept.run_findKey hk h1, hj, h4, MapKept.run_keyThatStays (hl.keys k), MapKept.run_setObj_map _ hb, Result.andThen], ?_⟩
    refine St.map_shut h.own_turn ⟨MapKept.stamped_modify hl.stamped _ _ (fun _ _ => rfl) (fun e' _ he' => by rw [hj] at he'; cases he'; exact h4.symm), hl.keys, hl.inj, ?_⟩
    have hm : mput m k v = m.set j (k, v) := by
      unfold mput
      rw [h5]
      exact map_set hl.nodup j k v v' h2
    rw [hm, List.map_set, ← hl.lies]
    apply List.ext_getElem?
    intro i
    rw [List.getElem?_map, List.getElem?_set, List.getElem?_map, List.length_map]
    simp only [Array.getElem?_toList, Array.getElem?_modify]
    by_cases hij : j = i
    · subst hij
      have hlt : j < es.toList.length := (List.getElem?_eq_some_iff.1 h3).1
      simp [hj]
      simpa using hlt
    · simp [hij]
/-- delete(m, k) -/
theorem St.map_drop [DecidableEq κ] (h : St w0 S0 w (map g d ek ev m :: F)) (ht : P.underlying t = some (.map kt et)) (hk : P.underlying kt = some d) (ty : TypeId) (k : κ) :
    ∃ w', (Builtin.delete_ #[t, kt] ty #[.map (some g), ek k]).run P w = .ok (.tuple #[]) w' ∧ St w0 S0 w' (map g d ek ev (mdel m k) :: F) := by
  obtain ⟨es, clock, hl, h⟩ := St.map_open h
  have hb := h.blk
  rcases hl.find k with ⟨h1, h2, h3⟩ | ⟨j, v', e, h1, h2, h3, h4, h5⟩
  · refine ⟨{ w with heap := w.heap.setIfInBounds g (.map es clock) }, by simp [Builtin.delete_, run_underlying ht, MapKept.run_getObj_map hb, MapKept.run_checkKey hk (hl.keys k), MapKept.run_findKey hk h1, MapKept.run_setObj_map _ hb, Result.andThen], ?_⟩
    rw [mdel_none k h3]
    exact St.map_shut h.own_turn hl
  · refine ⟨{ w with heap := w.heap.setIfInBounds g (.map (es.eraseIdxIfInBounds j) clock) }, by simp [Builtin.delete_, run_underlying ht, MapKept.run_getObj_map hb, MapKept.run_checkKey hk (hl.keys k), MapKept.run_findKey hk h1, MapKept.run_setObj_map _ hb, Result.andThen], ?_⟩
    refine St.map_shut h.own_turn ⟨MapKept.stamped_erase hl.stamped _, hl.keys, hl.inj, ?_⟩
    have hlt : j < es.size := by have := (List.getElem?_eq_some_iff.1 h3).1; simpa using this
    rw [filter_erase hl.nodup j k v' h2]
    have e1 : (es.eraseIdxIfInBounds j).toList = es.toList.eraseIdx j := by
      unfold Array.eraseIdxIfInBounds
      rw [dif_pos hlt, Array.toList_eraseIdx]
    rw [e1, erase_map, erase_map, hl.lies]
/-- len(m) -/
theorem St.map_size (h : St w0 S0 w (map g d ek ev m :: F)) : ∃ es clock, w.heap[g]? = some (.map es clock) ∧ es.size = m.length := by
  obtain ⟨es, clock, hl, h⟩ := St.map_open h
  exact ⟨es, clock, h.blk, hl.size⟩
end
end
end Go.Proofs.Ytkhbmamcbhjafaa.Sl
end
section
/- More events of a walk: stores into what the walk owns; what a call has made, in several rows. -/
namespace Go.Proofs.Ytkhbmamcbhjafaa.Sl
open Go.RowKit Go.Proofs.YtkhbmamcbhjafaaW.PrintWords Go.Proofs.YtkhbmamcbhjafaaW.PrintLast Go.Proofs.YtkhbmamcbhjafaaW.PrintMore
open HP
set_option linter.unusedVariables false
set_option linter.unusedSimpArgs false
/-- The cells from j on written. -/
def splice : List Value → Nat → List Value → List Value
  | cs, _, [] => cs
  | cs, j, v :: r => splice (cs.set j v) (j + 1) r
theorem splice_length : ∀ (seg cs : List Value) (j : Nat), (splice cs j seg).length = cs.length
  | [], _, _ => rfl
  | v :: r, cs, j => by rw [splice, splice_length r]; simp
section
variable {P : Program} {ops : Array Oper} {rest : List Oper} {o : Oper} {a : Act} {Q : Exit → Act → World → Prop} {Kc : Act → World → Prop} {w0 W : World} {S0 : Nat → Prop} {F : List HP} {α : Type}
theorem St.sets {g : Nat} {t : TypeId} : ∀ (seg : List Value) (cs : List Value) (j : Nat) (w : World), St w0 S0 w (obj g t cs :: F) → St w0 S0 (w.setCells g j seg) (obj g t (splice cs j seg) :: F)
  | [], _, _, _, h => h
  | v :: r, cs, j, w, h => St.sets r (cs.set j v) (j + 1) _ (h.set j v)
theorem store_runs {g j : Nat} {t t' : TypeId} {cs seg : List Value} {u : Value} (H : St w0 S0 W (obj g t' cs :: F)) (hu : u.cells.toList = seg) (ht : (P.info? t).map (·.size) = some seg.length) (h1 : seg.all (fun q => q.oneCell') = true) (hfit : j + seg.length ≤ cs.length) :
    (Instr.storeAt t (.pointer (some ⟨g, j, none⟩)) u).run P W = .ok () (W.setCells g j seg) :=
  run_store_run t u seg H.blk hu ht (by simpa using hfit) (fun q hq => List.all_eq_true.1 h1 q hq)
/-- *p = u, p a block of the walk's own. -/
theorem ev_store (hgd : o.guard = none) (hN : o.dst = none) (t : TypeId) (p x : Operand) (ho : o.op = .store t p x) {g j : Nat} {t' : TypeId} {cs seg : List Value} {u : Value} (H : St w0 S0 W (obj g t' cs :: F))
    (haddr : a.eval p = .pointer (some ⟨g, j, none⟩)) (hx : a.eval x = u) (hu : u.cells.toList = seg) (ht : (P.info? t).map (·.size) = some seg.length) (h1 : seg.all (fun q => q.oneCell') = true) (hfit : j + seg.length ≤ cs.length)
    (h : ∀ w1, St w0 S0 w1 (obj g t' (splice cs j seg) :: F) → wpList P ops Q rest a w1) : wpList P ops Q (o :: rest) a W := by
  refine wpList_plain hgd fun K hK => ?_
  unfold Oper.wp execOp
  simp only [ho, haddr, hx, Sem.run_bind, Sem.run_pure, Result.andThen_ok, store_runs H hu ht h1 hfit]
  show K (a.put o.dst undef) _
  rw [hN]
  exact hK a _ (h _ (St.sets seg cs j W H))
theorem ev_store_step (hw : Region.wanted o (yielded ops a.tmps) = true) (hN : o.dst = none) (t : TypeId) (p x : Operand) (ho : o.op = .store t p x) {g j : Nat} {t' : TypeId} {cs seg : List Value} {u : Value} (H : St w0 S0 W (obj g t' cs :: F))
    (haddr : a.eval p = .pointer (some ⟨g, j, none⟩)) (hx : a.eval x = u) (hu : u.cells.toList = seg) (ht : (P.info? t).map (·.size) = some seg.length) (h1 : seg.all (fun q => q.oneCell') = true) (hfit : j + seg.length ≤ cs.length)
    (h : ∀ w1, St w0 S0 w1 (obj g t' (splice cs j seg) :: F) → Kc a w1) : if Region.wanted o (yielded ops a.tmps) = true then Oper.wp P o a W Kc Q else Kc (a.put none undef) W := by
  refine skip_ hw hN ?_ (h _ (St.sets seg cs j W H))
  unfold execOp
  simp only [ho, haddr, hx, Sem.run_bind, Sem.run_pure, Result.andThen_ok, store_runs H hu ht h1 hfit]
/-- A new block, as a step. -/
theorem ev_box_step (hw : Region.wanted o (yielded ops a.tmps) = true) {N : Option Tmp} (hN : o.dst = N) {cs : List Value} {t : TypeId} (H : St w0 S0 W F)
    (hrun : (execOp a.eval o).run P W = .ok (.value (.pointer (some ⟨W.heap.size, 0, none⟩))) (W.alloc (.cells cs.toArray t (0, 0))))
    (h : ∀ g w1, St w0 S0 w1 (obj g t cs :: F) → W.heap.size ≤ g → Kc (a.put N (.pointer (some ⟨g, 0, none⟩))) w1) : if Region.wanted o (yielded ops a.tmps) = true then Oper.wp P o a W Kc Q else Kc (a.put N undef) W :=
  value_ hw hN hrun (h _ _ (H.alloc _) (Nat.le_refl _))
end
section
variable {w0 w w' : World} {S0 : Nat → Prop} {F : List HP} {α β : Type}
theorem R_owns {d : Kd α} {e base : Nat} {ok : Nat → Prop} {v : Value} {xs : List α} (hE : d.E = []) (hr : d.R e w' base ok v xs) : (row d e v xs).h w' (fun k => some k = v.ownBlock) :=
  Kd.R_lower (Kd.R_tight hE hr) (Nat.zero_le _)
/-- Two rows that a call has made, of two types. -/
theorem St.made2 {d : Kd α} {d' : Kd β} {e e' : Nat} {v v' : Value} {xs : List α} {ys : List β} {ok ok' : Nat → Prop} (h : St w0 S0 w F) (hr : d.R e w' w.heap.size ok v xs) (hr' : d'.R e' w' w.heap.size ok' v' ys) (hE : d.E = []) (hE' : d'.E = []) (hne : e ≠ e')
    (hb : Below w.heap.size w w') : St w0 S0 w' (row d e v xs :: row d' e' v' ys :: F) := by
  refine St.turn (L := []) (M := [row d e v xs, row d' e' v' ys]) h (fun S1 _ => ⟨Ext.of_below hb _, fun k => some k = v.ownBlock ∨ some k = v'.ownBlock, ?_, ?_⟩)
  · refine ⟨fun k => some k = v.ownBlock, fun k => some k = v'.ownBlock, R_owns hE hr, Gives.emp_intro _ _ _ (R_owns hE' hr'), ?_, fun _ h => .inl h, fun _ h => .inr h⟩
    intro k h1 h2
    obtain ⟨c1, q1⟩ := Kd.R_typed hr k h1.symm
    obtain ⟨c2, q2⟩ := Kd.R_typed hr' k h2.symm
    rw [q1] at q2
    simp only [Option.some.injEq, Obj.cells.injEq] at q2
    exact hne q2.2.1
  · rintro k (h1 | h1)
    · exact .inr (Kd.R_base hr k h1.symm)
    · exact .inr (Kd.R_base hr' k h1.symm)
end
end Go.Proofs.Ytkhbmamcbhjafaa.Sl
end
